/- Plain lemmas and contracts, several texts in one: Roll1, Roll2, Roll3. Conditions: their own. -/
import Derived.Test.YtdfahblgnbdndaaDoorOnce
import Derived.Test.YtdfahblgnbdndaaDoorG1
import Derived.Test.YtdfahblgnbdndaaDoorG2
namespace Go.Proofs.YtdfahblgnbdndaaDoor
open Go.RowKit Go.Proofs.YtdfahblgnbdndaaDoorW.PrintWords Go.Proofs.YtdfahblgnbdndaaDoorW.PrintMore
set_option linter.unusedVariables false
set_option linter.unusedSimpArgs false
def xs1 (x : Int) : Int := xr x (x * 8192 % 4294967296)
def xs2 (x : Int) : Int := xr x (x / 131072)
def xs3 (x : Int) : Int := xr x (x * 32 % 4294967296)
def wst (x : Int) : Int := xs3 (xs2 (xs1 x))
theorem xs1_range {x : Int} (h : 0 ≤ x ∧ x < 4294967296) : 0 ≤ xs1 x ∧ xs1 x < 4294967296 := xr_range h (by omega)
theorem xs2_range {x : Int} (h : 0 ≤ x ∧ x < 4294967296) : 0 ≤ xs2 x ∧ xs2 x < 4294967296 := xr_range h (by omega)
theorem xs3_range {x : Int} (h : 0 ≤ x ∧ x < 4294967296) : 0 ≤ xs3 x ∧ xs3 x < 4294967296 := xr_range h (by omega)
theorem wst_range {x : Int} (h : 0 ≤ x ∧ x < 4294967296) : 0 ≤ wst x ∧ wst x < 4294967296 := xs3_range (xs2_range (xs1_range h))
def wseq : Nat → Int
  | 0 => 2654435769
  | i + 1 => wst (wseq i)
theorem wseq_range : ∀ i, 0 ≤ wseq i ∧ wseq i < 4294967296
  | 0 => by decide
  | i + 1 => wst_range (wseq_range i)
/-- A byte's word. -/
def bword (c : Int) : Int := wseq (c.toNat + 1)
theorem bword_range (c : Int) : 0 ≤ bword c ∧ bword c < 4294967296 := wseq_range _
def WT (n : Nat) : List Int := (List.range n).map fun i => wseq (i + 1)
theorem WT_len (n : Nat) : (WT n).length = n := by simp [WT]
theorem WT_succ (n : Nat) : WT (n + 1) = WT n ++ [wseq (n + 1)] := by simp [WT, List.range_succ]
theorem WT_at (n : Nat) (c : Int) (h0 : 0 ≤ c) (h1 : c < n) : rd (WT n) c = bword c := by
  unfold Go.Proofs.YtdfahblgnbdndaaDoorW.PrintWords.rd
  rw [List.getD_eq_getElem?_getD, WT, List.getElem?_map, List.getElem?_range (by omega)]
  rfl
/-- The cells of words: the Once's, the words', what stands behind. -/
def Uw (xs : List Int) : List Value := xs.map (Value.int .u32)
def Oc (d m : Int) (ls : List Int) (rest : List Value) : List Value := .int .u32 d :: .int .i32 m :: .int .u32 0 :: (Uw ls ++ rest)
theorem SetBlk.next {w w1 w2 : World} {g : Nat} {o o' : Obj} (h : SetBlk w w1 g o) (k : SetBlk w1 w2 g o') : SetBlk w w2 g o' :=
  ⟨k.os.trans h.os, k.tape.trans h.tape, k.output.trans h.output, k.size.trans h.size, k.at_, fun j hj => (k.else_ j hj).trans (h.else_ j hj)⟩
theorem SetBlk.same {w : World} {g : Nat} {o : Obj} (h : w.heap[g]? = some o) : SetBlk w w g o := ⟨rfl, rfl, rfl, rfl, h, fun _ _ => rfl⟩
theorem SetBlk.drew {w w1 : World} {g : Nat} {o : Obj} (h : SetBlk w w1 g o) : SetBlk w w1.drew g o := h.next ⟨rfl, rfl, rfl, rfl, h.at_, fun _ _ => rfl⟩
theorem Uw_len (xs : List Int) : (Uw xs).length = xs.length := by simp [Uw]
theorem Oc_l {d m : Int} {ls : List Int} {rest : List Value} (k : Nat) (hk : k < ls.length) : (Oc d m ls rest).toArray[3 + k]? = some (.int .u32 (rd ls k)) := by
  unfold Go.Proofs.YtdfahblgnbdndaaDoorW.PrintWords.rd
  rw [List.getElem?_toArray, show 3 + k = k + 1 + 1 + 1 by omega]
  unfold Oc
  rw [List.getElem?_cons_succ, List.getElem?_cons_succ, List.getElem?_cons_succ, List.getElem?_append_left (by rw [Uw_len]; exact hk), Uw, List.getElem?_map, List.getElem?_eq_getElem hk, Int.toNat_natCast, List.getD_eq_getElem?_getD, List.getElem?_eq_getElem hk]
  rfl
theorem Oc_set_l {d m : Int} {ls : List Int} {rest : List Value} (k : Nat) (hk : k < ls.length) (x : Int) : (Oc d m ls rest).toArray.setIfInBounds (3 + k) (.int .u32 x) = (Oc d m (ls.set k x) rest).toArray := by
  rw [List.setIfInBounds_toArray, show 3 + k = k + 1 + 1 + 1 by omega]
  unfold Oc
  rw [List.set_cons_succ, List.set_cons_succ, List.set_cons_succ, List.set_append_left _ _ (by rw [Uw_len]; exact hk), Uw, Uw, List.map_set]
theorem Oc_set_d {d m x : Int} {ls : List Int} {rest : List Value} : (Oc d m ls rest).toArray.setIfInBounds 0 (.int .u32 x) = (Oc x m ls rest).toArray := by
  rw [List.setIfInBounds_toArray]; rfl
theorem Oc_set_m {d m x : Int} {ls : List Int} {rest : List Value} : (Oc d m ls rest).toArray.setIfInBounds 1 (.int .i32 x) = (Oc d x ls rest).toArray := by
  rw [List.setIfInBounds_toArray]; rfl
theorem Oc_rest {d m : Int} {ls : List Int} {rest : List Value} (hl : ls.length = 256) (k : Nat) : (Oc d m ls rest).toArray[259 + k]? = rest[k]? := by
  rw [List.getElem?_toArray, show 259 + k = 256 + k + 1 + 1 + 1 by omega]
  unfold Oc
  rw [List.getElem?_cons_succ, List.getElem?_cons_succ, List.getElem?_cons_succ, List.getElem?_append_right (by rw [Uw_len]; omega), Uw_len, hl, Nat.add_sub_cancel_left]
theorem Oc_set_rest {d m : Int} {ls : List Int} {rest : List Value} (hl : ls.length = 256) (k : Nat) (v : Value) : (Oc d m ls rest).toArray.setIfInBounds (259 + k) v = (Oc d m ls (rest.set k v)).toArray := by
  rw [List.setIfInBounds_toArray, show 259 + k = 256 + k + 1 + 1 + 1 by omega]
  unfold Oc
  rw [List.set_cons_succ, List.set_cons_succ, List.set_cons_succ, List.set_append_right _ _ (by rw [Uw_len]; omega), Uw_len, hl, Nat.add_sub_cancel_left]
set_option maxRecDepth 20000 in
theorem rfill_calls (g T : Nat) (d m : Int) (ls : List Int) (rest : List Value) (w : World) (hg : w.heap[g]? = some (.cells (Oc d m ls rest).toArray T (0, 0))) (hl : ls.length = 256) :
    Calls Tryd.prog 118 #[.pointer (some ⟨g, 0, none⟩)] w fun e w' => e = .returned (.tuple #[]) ∧ SetBlk w w' g (.cells (Oc d m (WT 256) rest).toArray T (0, 0)) := by
  go_enter Tryd.func118, Tryd.ntmps118
  go_wp2
  go_loopw [2, 4] (fun x i wr => ∃ k : Nat, k ≤ 256 ∧ i = .int .i64 k ∧ x = .int .u32 (wseq k) ∧ SetBlk w wr g (.cells (Oc d m (WT k ++ ls.drop k) rest).toArray T (0, 0))) (fun _ i _ => 256 - (intOf i).toNat)
  case atStart => exact ⟨0, by omega, rfl, rfl, ⟨rfl, rfl, rfl, rfl, by simpa [WT] using hg, fun _ _ => rfl⟩⟩
  case round =>
    obtain ⟨k, hk, rfl, rfl, hS⟩ := hrel
    have HS := Aside0.mk hS
    clear hS
    by_cases hlt : k < 256
    · have hx := wseq_range k
      have HW : Aside0 (wst (wseq k) = wseq (k + 1)) := ⟨rfl⟩
      have hlen : (WT k ++ ls.drop k).length = 256 := by rw [List.length_append, WT_len, List.length_drop]; omega
      have hc : wr.cell? ⟨g, 3 + k, none⟩ = some (.int .u32 (rd (WT k ++ ls.drop k) k)) := by rw [blk_cell HS.out.at_, Oc_l k (by omega)]
      have hf := blk_frozen HS.out.at_ (3 + k)
      have HE : Aside0 ((WT k ++ ls.drop k).set k (wseq (k + 1)) = WT (k + 1) ++ ls.drop (k + 1)) := ⟨by
        rw [WT_succ, List.set_append_right _ _ (by rw [WT_len]; exact Nat.le_refl _), WT_len, Nat.sub_self, List.drop_eq_getElem_cons (show k < ls.length by omega), List.set_cons_zero, List.append_assoc]
        rfl⟩
      generalize rd (WT k ++ ls.drop k) k = y at *
      generalize wseq k = x at *
      go_wp2
      go_roundw
      case rel =>
        refine ⟨k + 1, by omega, by go_num, by rw [← HW.out]; rfl, ?_⟩
        have h2 := setBlk_cell HS.out.at_ (.int .u32 (wst x)) (i := 3 + k)
        rw [Oc_set_l k (by omega), HW.out, HE.out] at h2
        rw [← HW.out] at h2
        exact HS.out.next h2
      case measure => simp [intOf]; omega
    · obtain rfl : k = 256 := by omega
      have HS' := HS.out
      rw [List.drop_of_length_le (by omega), List.append_nil] at HS'
      have HS2 := Aside0.mk HS'
      clear HS'
      go_wp2
      (try simp only [Exit.inBlock, Exit.then])
      refine bodyPost_end (results_none rfl _ _ _) rfl ?_
      exact ⟨rfl, HS2.out⟩
end Go.Proofs.YtdfahblgnbdndaaDoor
namespace Go.Proofs.YtdfahblgnbdndaaDoor
open Go.RowKit Go.Proofs.YtdfahblgnbdndaaDoorW.PrintWords Go.Proofs.YtdfahblgnbdndaaDoorW.PrintMore
set_option linter.unusedVariables false
set_option linter.unusedSimpArgs false
theorem Oc_cells {w : World} {g T : Nat} {d m : Int} {ls : List Int} {rest : List Value} (hg : w.heap[g]? = some (.cells (Oc d m ls rest).toArray T (0, 0))) :
    w.cell? ⟨g, 0, none⟩ = some (.int .u32 d) ∧ w.cell? ⟨g, 1, none⟩ = some (.int .i32 m) ∧ w.frozen? ⟨g, 0, none⟩ = false ∧ w.frozen? ⟨g, 1, none⟩ = false := by
  refine ⟨by rw [blk_cell hg]; rfl, by rw [blk_cell hg]; rfl, blk_frozen hg 0, blk_frozen hg 1⟩
theorem not_run (x : Bool) (w : World) : (Op.unary .not (.bool x)).run Tryd.prog w = .ok (.bool (!x)) w := rfl
set_option maxRecDepth 100000 in
set_option maxHeartbeats 1600000 in
theorem slow_calls (g T : Nat) (ls : List Int) (rest : List Value) (w : World) (hg : w.heap[g]? = some (.cells (Oc 0 0 ls rest).toArray T (0, 0))) (hl : ls.length = 256) :
    Calls Tryd.prog 120 #[.pointer (some ⟨g, 0, none⟩), .func (.func 118) #[.pointer (some ⟨g, 0, none⟩)] #[]] w fun e w' => e = .returned (.tuple #[]) ∧ SetBlk w w' g (.cells (Oc 1 0 (WT 256) rest).toArray T (0, 0)) := by
  have hnot := not_run
  obtain ⟨c0, c1, f0, f1⟩ := Oc_cells hg
  have HS1 : Aside0 (SetBlk w (w.setCell ⟨g, 1, none⟩ (.int .i32 1)) g (.cells (Oc 0 1 ls rest).toArray T (0, 0))) := ⟨by
    have h2 := setBlk_cell hg (.int .i32 1) (i := 1)
    rwa [Oc_set_m] at h2⟩
  go_enter_defers Tryd.func120, Tryd.ntmps120
  go_wp2_with (first
    | (go_at_call 122; refine (lock_free ⟨g, 1, none⟩ w c1 f1).mono ?_; rintro e w1 ⟨rfl, rfl⟩)
    | (go_at_call 119; refine (bload_calls ⟨g, 0, none⟩ 0 _ (Oc_cells HS1.out.at_).1).mono ?_; rintro e w1 ⟨rfl, rfl⟩)
    | (go_at_call 118; refine (rfill_calls g T 0 1 ls rest _ HS1.out.at_ hl).mono ?_; rintro e w2 ⟨rfl, hS2⟩; have HS2 := Aside0.mk (HS1.out.next hS2); clear hS2))
  obtain ⟨d0, d1, e0, e1⟩ := Oc_cells HS2.out.at_
  have k2 := HS2.out.drew
  have k3 := setBlk_cell k2.at_ (.int .u32 1) (i := 0)
  rw [Oc_set_d] at k3
  have k4 := setBlk_cell k3.at_ (.int .i32 0) (i := 1)
  rw [Oc_set_m] at k4
  have HS4 := Aside0.mk (k2.next (k3.next k4))
  have q := Oc_cells k3.at_
  clear k2 k4
  refine leaves_cons (f := 124) (args := #[.pointer (some ⟨g, 0, none⟩), .bool true]) (by simp) (by simp [go_sem]) ?_
  refine (store_deferred ⟨g, 0, none⟩ (.int .u32 0) .returning _ d0 e0).mono ?_
  rintro e u' w'' ⟨rfl, rfl, rfl⟩
  refine leaves_cons (f := 123) (args := #[.pointer (some ⟨g, 1, none⟩)]) (by simp [settle]) (by simp [go_sem]) ?_
  refine (unlock_deferred ⟨g, 1, none⟩ _ _ q.2.1 q.2.2.2).mono ?_
  rintro e u' w'' ⟨rfl, rfl, rfl⟩
  simp [Leaves, settle, results, Tryd.results120]
  exact HS4.out
set_option maxHeartbeats 1600000 in
theorem do_first (g T : Nat) (ls : List Int) (rest : List Value) (w : World) (hg : w.heap[g]? = some (.cells (Oc 0 0 ls rest).toArray T (0, 0))) (hl : ls.length = 256) :
    Calls Tryd.prog 117 #[.pointer (some ⟨g, 0, none⟩), .func (.func 118) #[.pointer (some ⟨g, 0, none⟩)] #[]] w fun e w' => e = .returned (.tuple #[]) ∧ SetBlk w w' g (.cells (Oc 1 0 (WT 256) rest).toArray T (0, 0)) := by
  have hnot := not_run
  obtain ⟨c0, c1, f0, f1⟩ := Oc_cells hg
  go_enter Tryd.func117, Tryd.ntmps117
  go_wp2_with (first
    | (go_at_call 119; refine (bload_calls ⟨g, 0, none⟩ 0 w c0).mono ?_; rintro e w1 ⟨rfl, rfl⟩)
    | (go_at_call 120; refine (slow_calls g T ls rest w hg hl).mono ?_; rintro e w2 ⟨rfl, hS2⟩))
  (try simp only [Exit.inBlock, Exit.then])
  refine bodyPost_end (results_none rfl _ _ _) rfl ?_
  exact ⟨rfl, hS2⟩
theorem do_done (g T : Nat) (ls : List Int) (rest : List Value) (fv : Value) (w : World) (hg : w.heap[g]? = some (.cells (Oc 1 0 ls rest).toArray T (0, 0))) :
    Calls Tryd.prog 117 #[.pointer (some ⟨g, 0, none⟩), fv] w fun e w' => e = .returned (.tuple #[]) ∧ w = w' := by
  have hnot := not_run
  obtain ⟨c0, c1, f0, f1⟩ := Oc_cells hg
  go_enter Tryd.func117, Tryd.ntmps117
  go_wp2_with (go_at_call 119; refine (bload_calls ⟨g, 0, none⟩ 1 w c0).mono ?_; rintro e w1 ⟨rfl, rfl⟩)
  (try simp only [Exit.inBlock, Exit.then])
  refine bodyPost_end (results_none rfl _ _ _) rfl ?_
  exact ⟨rfl, rfl⟩
/-- The words at g: not yet made, or made. -/
def Wd (w : World) (g T : Nat) (rest : List Value) : Prop := ∃ (d : Int) (ls : List Int), w.heap[g]? = some (.cells (Oc d 0 ls rest).toArray T (0, 0)) ∧ ls.length = 256 ∧ (d = 0 ∨ d = 1 ∧ ls = WT 256)
theorem of_calls (g T : Nat) (rest : List Value) (c : Int) (w : World) (h : Wd w g T rest) (h0 : 0 ≤ c) (h1 : c < 256) :
    Calls Tryd.prog 112 #[.pointer (some ⟨g, 0, none⟩), .int .u8 c] w fun e w' => e = .returned (.int .u32 (bword c)) ∧ SetBlk w w' g (.cells (Oc 1 0 (WT 256) rest).toArray T (0, 0)) := by
  obtain ⟨d, ls, hg, hl, hd⟩ := h
  have hmf : ∀ (fn : Fn) (first cap : Array Value) (w : World), (Instr.makeFunc fn first cap).run Tryd.prog w = .ok (.func fn first cap) w := fun _ _ _ _ => rfl
  have key : ∀ w1, SetBlk w w1 g (.cells (Oc 1 0 (WT 256) rest).toArray T (0, 0)) → w1.cell? ⟨g, 3 + c.toNat, none⟩ = some (.int .u32 (bword c)) := fun w1 h => by
    rw [blk_cell h.at_, Oc_l c.toNat (by rw [WT_len]; omega), Int.toNat_of_nonneg h0, WT_at 256 c h0 h1]
  have hct : c.toNat < 256 := by omega
  have HG := Aside0.mk hg
  clear hg
  rcases hd with rfl | ⟨rfl, rfl⟩
  · go_enter Tryd.func112, Tryd.ntmps112
    go_wp2_with (go_at_call 117; refine (do_first g T ls rest w HG.out hl).mono ?_; rintro e w1 ⟨rfl, hS⟩; have hc := key w1 hS; have HS := Aside0.mk hS; clear hS key)
    go_ret
    exact ⟨rfl, HS.out⟩
  · have hc := key w (SetBlk.same HG.out)
    go_enter Tryd.func112, Tryd.ntmps112
    go_wp2_with (go_at_call 117; refine (do_done g T (WT 256) rest _ w HG.out).mono ?_; rintro e w1 ⟨rfl, rfl⟩)
    go_ret
    exact ⟨rfl, SetBlk.same HG.out⟩
end Go.Proofs.YtdfahblgnbdndaaDoor
namespace Go.Proofs.YtdfahblgnbdndaaDoor
open Go.RowKit Go.Proofs.YtdfahblgnbdndaaDoorW.PrintWords Go.Proofs.YtdfahblgnbdndaaDoorW.PrintMore
set_option linter.unusedVariables false
set_option linter.unusedSimpArgs false
def hx : List Int → Int
  | [] => 0
  | c :: t => xr (rls (bword c) t.length) (hx t)
theorem hx_range : ∀ t, 0 ≤ hx t ∧ hx t < 4294967296
  | [] => by decide
  | c :: t => xr_range (rls_range (bword_range c) _) (hx_range t)
theorem rl_zero : rl 0 = 0 := by decide
theorem hx_snoc (c : Int) : ∀ t, hx (t ++ [c]) = xr (rl (hx t)) (bword c)
  | [] => by
    show xr (rls (bword c) 0) 0 = xr (rl 0) (bword c)
    rw [rl_zero, xr_zero (bword_range c)]
    exact xr_zero' (bword_range c)
  | a :: t => by
    have ha := rls_range (bword_range a) t.length
    have ht := hx_range t
    show xr (rls (bword a) (t ++ [c]).length) (hx (t ++ [c])) = xr (rl (xr (rls (bword a) t.length) (hx t))) (bword c)
    rw [hx_snoc c t, rl_xr ha ht, xr_assoc (rl_range ha) (rl_range ht) (bword_range c), List.length_append]
    rfl
/-- The hash of bytes. -/
def hov (b : List Int) : Int := hx (b.drop (b.length - 16))
theorem hov_range (b : List Int) : 0 ≤ hov b ∧ hov b < 4294967296 := hx_range _
theorem hov_few (b : List Int) (c : Int) (h : b.length < 16) : hov (b ++ [c]) = xr (rl (hov b)) (bword c) := by
  unfold hov
  rw [show (b ++ [c]).length - 16 = 0 by rw [List.length_append, List.length_singleton]; omega, show b.length - 16 = 0 by omega, List.drop_zero, List.drop_zero, hx_snoc]
theorem hov_more (b : List Int) (c a : Int) (h : 16 ≤ b.length) (ha : a = rd b ((b.length - 16 : Nat) : Int)) : hov (b ++ [c]) = xr (xr (rl (hov b)) (bword c)) (rls (bword a) 16) := by
  unfold hov
  have hlt : b.length - 16 < b.length := by omega
  have e1 : b.drop (b.length - 16) = a :: b.drop (b.length - 16 + 1) := by
    rw [List.drop_eq_getElem_cons hlt, ha]
    unfold Go.Proofs.YtdfahblgnbdndaaDoorW.PrintWords.rd
    rw [Int.toNat_natCast, List.getD_eq_getElem?_getD, List.getElem?_eq_getElem hlt]
    rfl
  have e2 : (b ++ [c]).drop ((b ++ [c]).length - 16) = b.drop (b.length - 16 + 1) ++ [c] := by
    rw [List.length_append, List.length_singleton, show b.length + 1 - 16 = b.length - 16 + 1 by omega, List.drop_append_of_le_length (by omega)]
  have hl : (b.drop (b.length - 16 + 1)).length = 15 := by rw [List.length_drop]; omega
  rw [e1, e2, hx_snoc]
  generalize b.drop (b.length - 16 + 1) = t at *
  have hA := rls_range (bword_range a) 15
  have hT := hx_range t
  have hR := rls_range (bword_range a) 16
  have hW := bword_range c
  show xr (rl (hx t)) (bword c) = xr (xr (rl (xr (rls (bword a) t.length) (hx t))) (bword c)) (rls (bword a) 16)
  rw [hl, rl_xr hA hT]
  show xr (rl (hx t)) (bword c) = xr (xr (xr (rls (bword a) 16) (rl (hx t))) (bword c)) (rls (bword a) 16)
  rw [xr_assoc hR (rl_range hT) hW, xr_comm (xr_range hR (xr_range (rl_range hT) hW)) hR, ← xr_assoc hR hR (xr_range (rl_range hT) hW), xr_self hR, xr_zero (xr_range (rl_range hT) hW)]
/-- A roll's cells. -/
def RR (la : List Int) (n s : Int) : List Value := la.map (Value.int .u8) ++ [.int .i64 n, .int .u32 s]
theorem RR_n {la : List Int} {n s : Int} (h : la.length = 16) : (RR la n s)[16]? = some (.int .i64 n) := by simp [RR, List.getElem?_append_right, h]
theorem RR_s {la : List Int} {n s : Int} (h : la.length = 16) : (RR la n s)[17]? = some (.int .u32 s) := by simp [RR, List.getElem?_append_right, h]
theorem RR_l {la : List Int} {n s : Int} (h : la.length = 16) (k : Nat) (hk : k < 16) : (RR la n s)[k]? = some (.int .u8 (rd la k)) := by
  unfold Go.Proofs.YtdfahblgnbdndaaDoorW.PrintWords.rd
  rw [RR, List.getElem?_append_left (by rw [List.length_map]; omega), List.getElem?_map, List.getElem?_eq_getElem (by omega), Int.toNat_natCast, List.getD_eq_getElem?_getD, List.getElem?_eq_getElem (by omega)]
  rfl
theorem RR_set_n {la : List Int} {n s m : Int} (h : la.length = 16) : (RR la n s).set 16 (.int .i64 m) = RR la m s := by simp [RR, List.set_append_right, h]
theorem RR_set_s {la : List Int} {n s m : Int} (h : la.length = 16) : (RR la n s).set 17 (.int .u32 m) = RR la n m := by simp [RR, List.set_append_right, h]
theorem RR_set_l {la : List Int} {n s : Int} (h : la.length = 16) (k : Nat) (hk : k < 16) (c : Int) : (RR la n s).set k (.int .u8 c) = RR (la.set k c) n s := by
  rw [RR, RR, List.set_append_left _ _ (by rw [List.length_map]; omega), List.map_set]
abbrev RB (w : World) (g : Nat) (d : Int) (ls la : List Int) (n s : Int) : Prop := w.heap[g]? = some (.cells (Oc d 0 ls (RR la n s)).toArray 169 (0, 0))
theorem RB.n {w : World} {g : Nat} {d : Int} {ls la : List Int} {n s : Int} (h : RB w g d ls la n s) (hl : ls.length = 256) (ha : la.length = 16) : w.cell? ⟨g, 275, none⟩ = some (.int .i64 n) := by
  rw [blk_cell h]; exact (Oc_rest hl 16).trans (RR_n ha)
theorem RB.s {w : World} {g : Nat} {d : Int} {ls la : List Int} {n s : Int} (h : RB w g d ls la n s) (hl : ls.length = 256) (ha : la.length = 16) : w.cell? ⟨g, 276, none⟩ = some (.int .u32 s) := by
  rw [blk_cell h]; exact (Oc_rest hl 17).trans (RR_s ha)
theorem RB.l {w : World} {g : Nat} {d : Int} {ls la : List Int} {n s : Int} (h : RB w g d ls la n s) (hl : ls.length = 256) (ha : la.length = 16) (k : Nat) (hk : k < 16) : w.cell? ⟨g, 259 + k, none⟩ = some (.int .u8 (rd la k)) := by
  rw [blk_cell h]; exact (Oc_rest hl k).trans (RR_l ha k hk)
/-- A roll at g: the bytes since it was made anew. -/
def RSt (w : World) (g : Nat) (b : List Int) : Prop :=
  ∃ (d : Int) (ls la : List Int), RB w g d ls la b.length (hov b) ∧ ls.length = 256 ∧ la.length = 16 ∧ (d = 0 ∨ d = 1 ∧ ls = WT 256) ∧ Bytes la ∧ ∀ j : Nat, j < b.length → b.length ≤ j + 16 → rd la ((j % 16 : Nat) : Int) = rd b j
theorem RSt.move {w w1 : World} {g : Nat} {b : List Int} (h : RSt w g b) (hm : w1.heap[g]? = w.heap[g]?) : RSt w1 g b := by
  obtain ⟨d, ls, la, h1, h2⟩ := h
  exact ⟨d, ls, la, hm.trans h1, h2⟩
theorem RSt.lt {w : World} {g : Nat} {b : List Int} (h : RSt w g b) : g < w.heap.size := by
  obtain ⟨d, ls, la, h1, _⟩ := h
  exact (Array.getElem?_eq_some_iff.1 h1).1
theorem RSt.below {w w1 : World} {g : Nat} {b : List Int} (h : RSt w g b) (hb : Below w.heap.size w w1) : RSt w1 g b := h.move (hb.block g h.lt)
theorem rolt1_calls (x : Int) (w : World) (h0 : 0 ≤ x) (h1 : x < 4294967296) :
    Calls Tryd.prog 113 #[.int .u32 x, .int .i64 1] w fun e w' => e = .returned (.int .u32 (rl x)) ∧ w = w' := by
  have hr : Go.bits .or .u32 (x * 2 % 4294967296) (x / 2147483648) = rl x := rolt_bits x 31 2 2147483648 (by omega) (by omega) h0 h1 rfl rfl
  go_enter Tryd.func113, Tryd.ntmps113
  have e0 : Go.bits .and .u64 1 31 = 1 := by decide +kernel
  go_wp2
  go_ret
  exact ⟨rfl, rfl⟩
theorem rolt16_calls (x : Int) (w : World) (h0 : 0 ≤ x) (h1 : x < 4294967296) :
    Calls Tryd.prog 113 #[.int .u32 x, .int .i64 16] w fun e w' => e = .returned (.int .u32 (rls x 16)) ∧ w = w' := by
  have hr : Go.bits .or .u32 (x * 65536 % 4294967296) (x / 65536) = rls x 16 := by rw [rls_rot x ⟨h0, h1⟩ 16 (by omega)]; exact rolt_bits x 16 65536 65536 (by omega) (by omega) h0 h1 rfl rfl
  go_enter Tryd.func113, Tryd.ntmps113
  have e0 : Go.bits .and .u64 16 31 = 16 := by decide +kernel
  go_wp2
  go_ret
  exact ⟨rfl, rfl⟩
set_option maxRecDepth 20000 in
theorem built_r0 : Tryd.prog.built 169 [] = some (Oc 0 0 (List.replicate 256 0) (RR (List.replicate 16 0) 0 0)).toArray := by kernel_rfl
set_option maxRecDepth 20000 in
theorem rnew_calls (w : World) : Calls Tryd.prog 99 #[] w fun e w' => e = .returned (.pointer (some ⟨w.heap.size, 0, none⟩)) ∧ RSt w' w.heap.size [] ∧ Below w.heap.size w w' ∧ w'.heap.size = w.heap.size + 1 := by
  obtain ⟨C, hC, hb⟩ : ∃ C, Aside0 (C = (Oc 0 0 (List.replicate 256 0) (RR (List.replicate 16 0) 0 0)).toArray) ∧ Tryd.prog.built 169 [] = some C := ⟨_, ⟨rfl⟩, built_r0⟩
  go_enter Tryd.func99, Tryd.ntmps99
  go_wp2_with (((with_reducible refine at_bd 169 ?_); refine build_arm rfl 169 _ rfl hb ?_; simp only [Act.put, List.setIfInBounds_toArray, List.set_cons_zero, List.set_cons_succ]))
  go_ret
  refine ⟨rfl, ⟨0, List.replicate 256 0, List.replicate 16 0, (show (w.alloc (Obj.cells C 169)).heap[w.heap.size]? = some (.cells (Oc 0 0 (List.replicate 256 0) (RR (List.replicate 16 0) 0 0)).toArray 169 (0, 0)) by rw [← hC.out]; exact blk_new w _), List.length_replicate, List.length_replicate, .inl rfl, fun x hx => ?_, fun j hj => by simp at hj⟩, (Below.refl _ _).alloc (Nat.le_refl _) _, by simp⟩
  rw [(List.mem_replicate.1 hx).2]; omega
end Go.Proofs.YtdfahblgnbdndaaDoor
