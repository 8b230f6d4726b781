/- Who collects. Conditions: what the iterator tells. -/
import Derived.Test.YtdfahblgnbdndaaDoorCut6
namespace Go.Proofs.YtdfahblgnbdndaaDoor
open Go.RowKit Go.Shelf Go.Proofs.YtdfahblgnbdndaaDoorW.PrintWords Go.Proofs.YtdfahblgnbdndaaDoorW.PrintMore
set_option linter.unusedVariables false
set_option linter.unusedSimpArgs false
attribute [local go_sem] Oper.semAt_some
/-- What an iterator of these bytes and numbers tells. -/
def Tells (a b c : Int) (A : Option Addr) (n cp : Nat) (xs : List Int) (CH : List (List Int)) : Prop :=
  ∀ (w : World) (pB bB : Nat), w.heap[pB]? = some (.cells #[.int .i64 a, .int .i64 b, .int .i64 c] 24 (0, 0)) → w.heap[bB]? = some (.cells #[.slice A n cp] 33 (0, 0)) → RdB w A n xs →
    SeqY FoC Fence.wide 9 Tryd.prog 74 #[.pointer (some ⟨pB, 0, none⟩), .pointer (some ⟨bB, 0, none⟩)] (fun x => #[encS x]) (Yc CH) (fun ys => ys.length = CH.length) (fun pre => pre.length ≤ CH.length) w
theorem tells_ok (a b c : Nat) (A : Option Addr) (n cp : Nat) (xs : List Int) (hby : Bytes xs) (hm : mayB a b c = true) (hn : n ≤ 1073741824) : Tells a b c A n cp xs (al a c (pw b) [] xs) :=
  fun w pB bB h1 h2 h3 => all1_seq a b c pB bB n cp A xs w h1 h2 h3 hby hm hn
theorem tells_bad (a b c : Int) (A : Option Addr) (n cp : Nat) (xs : List Int) (hm : mayB a b c = false) : Tells a b c A n cp xs [] :=
  fun w pB bB h1 h2 h3 l J Jx W hW hJ hY h0 => (all1_bad a b c pB bB w [] h1 hm l J Jx W hW hJ hY h0).mono fun e w' h => ⟨h.1, h.2.imp id fun ⟨pre, M, h1, h2⟩ => ⟨pre, M, Nat.le_of_eq h1, h2⟩⟩
/-- Chunks that were told. -/
def Told (base : Nat) (w : World) (CH : List (List Int)) (L : List (S3 × List Int)) : Prop := L.map (·.2) = CH ∧ ∀ p ∈ L, ChY base p.1 p.2 w
theorem Told.chR {base : Nat} {w : World} {CH : List (List Int)} {L : List (S3 × List Int)} (h : Told base w CH L) : ChR w L := fun p hp => by
  obtain ⟨h1, h2, h3, h4, h5, _⟩ := h.2 p hp
  exact ⟨h5, h1, h2, h3⟩
theorem func_nil (f : FuncId) (x y : Array Value) (w : World) : (binOp .eql 96 (.func (.func f) x y) .nilFunc).run Tryd.prog w = .ok (.bool false) w := by
  have hu : Tryd.prog.underlying 96 = some (.func #[110] #[] false) := by kernel_rfl
  have h : ∀ d : Nat, (Op.equalIn (d + 1) 96 (.func (.func f) x y) .nilFunc).run Tryd.prog w = .ok false w := fun d => by
    simp [Op.equalIn, run_underlying hu]
  simp only [binOp]
  simp [Op.equal, Op.maxDepth, h 9999]
theorem CI.told {w w4 W : World} {ob M D n : Nat} {CH : List (List Int)} {pre : List S3} {va : Option Addr} {vc : Nat} (h : CI w4 ob CH M pre (W.putObj D (.deferred none))) (hl : pre.length = CH.length) (_ : True) (_ : True) (hk : W.heap[D]? = some (.deferred (some []))) (hO : OwT W M (.slice va n vc) pre) (hB : Below w.heap.size w w4) (hob : w.heap.size ≤ ob) :
    ∃ v L, Ending.returned (.slice va n vc) = .returned v ∧ OwT (W.putObj D (.deferred none)) w.heap.size v (L.map (·.1)) ∧ Told w.heap.size (W.putObj D (.deferred none)) CH L ∧ Below w.heap.size w (W.putObj D (.deferred none)) := by
  obtain ⟨h1, h2, h3, h4, L, h6, h7, h8⟩ := h
  rw [hl, List.take_length] at h7
  refine ⟨_, L, rfl, ?_, ⟨h7, fun p hp => (h8 p hp).mono hB.size⟩, hB.trans (h3.below (fun k hk => by omega) hB.size)⟩
  rw [h6]
  exact Kd.R_lower (hO.move fun k cells _ hc => World.putObj_heap_other (fun e => by subst e; rw [hk] at hc; cases hc)) (Nat.le_trans hB.size h1)
theorem four_new (w : World) (c1 c2 c3 c4 : Array Value) (t1 t2 t3 t4 : Nat) :
    let w4 := (((w.alloc (.cells c1 t1)).alloc (.cells c2 t2)).alloc (.cells c3 t3)).alloc (.cells c4 t4)
    (w4.heap[w.heap.size + 1]? = some (.cells c2 t2 (0, 0))) ∧ (w4.heap[w.heap.size + 1 + 1]? = some (.cells c3 t3 (0, 0))) ∧ (w4.heap[w.heap.size + 1 + 1 + 1]? = some (.cells c4 t4 (0, 0))) ∧ Below w.heap.size w w4 ∧ w4.heap.size = w.heap.size + 4 := by
  have s1 : (w.alloc (.cells c1 t1)).heap.size = w.heap.size + 1 := by simp
  have s2 : ((w.alloc (.cells c1 t1)).alloc (.cells c2 t2)).heap.size = w.heap.size + 1 + 1 := by simp
  have s3 : (((w.alloc (.cells c1 t1)).alloc (.cells c2 t2)).alloc (.cells c3 t3)).heap.size = w.heap.size + 1 + 1 + 1 := by simp
  refine ⟨?_, ?_, ?_, ?_, by simp⟩
  · rw [Below.heap_alloc _ _ _ (by omega), Below.heap_alloc _ _ _ (by omega)]
    have := blk_new (w.alloc (.cells c1 t1)) (.cells c2 t2)
    rwa [s1] at this
  · rw [Below.heap_alloc _ _ _ (by omega)]
    have := blk_new ((w.alloc (.cells c1 t1)).alloc (.cells c2 t2)) (.cells c3 t3)
    rwa [s2] at this
  · have := blk_new (((w.alloc (.cells c1 t1)).alloc (.cells c2 t2)).alloc (.cells c3 t3)) (.cells c4 t4)
    rwa [s3] at this
  · exact ((((Below.refl _ w).alloc (Nat.le_refl _) _).alloc (by omega) _).alloc (by omega) _).alloc (by omega) _
end Go.Proofs.YtdfahblgnbdndaaDoor
