/- roll's words: of, Word. Conditions: the cells of the words. -/
import Derived.Test.YtdbgbbodkoppdaaRoll1
namespace Go.Proofs.Ytdbgbbodkoppdaa
open Go.RowKit Go.Proofs.YtdbgbbodkoppdaaW.PrintWords Go.Proofs.YtdbgbbodkoppdaaW.PrintMore
set_option linter.unusedVariables false
set_option linter.unusedSimpArgs false
theorem Oc_cells {w : World} {g T : Nat} {d m : Int} {ls : List Int} {rest : List Value} (hg : w.heap[g]? = some (.cells (Oc d m ls rest).toArray T (0, 0))) :
    w.cell? ⟨g, 0, none⟩ = some (.int .u32 d) ∧ w.cell? ⟨g, 1, none⟩ = some (.int .i32 m) ∧ w.frozen? ⟨g, 0, none⟩ = false ∧ w.frozen? ⟨g, 1, none⟩ = false := by
  refine ⟨by rw [blk_cell hg]; rfl, by rw [blk_cell hg]; rfl, blk_frozen hg 0, blk_frozen hg 1⟩
theorem not_run (x : Bool) (w : World) : (Op.unary .not (.bool x)).run Try.prog w = .ok (.bool (!x)) w := rfl
set_option maxRecDepth 100000 in
set_option maxHeartbeats 1600000 in
theorem slow_calls (g T : Nat) (ls : List Int) (rest : List Value) (w : World) (hg : w.heap[g]? = some (.cells (Oc 0 0 ls rest).toArray T (0, 0))) (hl : ls.length = 256) :
    Calls Try.prog 40 #[.pointer (some ⟨g, 0, none⟩), .func (.func 37) #[.pointer (some ⟨g, 0, none⟩)] #[]] w fun e w' => e = .returned (.tuple #[]) ∧ SetBlk w w' g (.cells (Oc 1 0 (WT 256) rest).toArray T (0, 0)) := by
  have hnot := not_run
  obtain ⟨c0, c1, f0, f1⟩ := Oc_cells hg
  have HS1 : Aside0 (SetBlk w (w.setCell ⟨g, 1, none⟩ (.int .i32 1)) g (.cells (Oc 0 1 ls rest).toArray T (0, 0))) := ⟨by
    have h2 := setBlk_cell hg (.int .i32 1) (i := 1)
    rwa [Oc_set_m] at h2⟩
  go_enter_defers Try.func40, Try.ntmps40
  go_wp2_with (first
    | (go_at_call 42; refine (lock_free ⟨g, 1, none⟩ w c1 f1).mono ?_; rintro e w1 ⟨rfl, rfl⟩)
    | (go_at_call 39; refine (bload_calls ⟨g, 0, none⟩ 0 _ (Oc_cells HS1.out.at_).1).mono ?_; rintro e w1 ⟨rfl, rfl⟩)
    | (go_at_call 37; refine (fill_calls g T 0 1 ls rest _ HS1.out.at_ hl).mono ?_; rintro e w2 ⟨rfl, hS2⟩; have HS2 := Aside0.mk (HS1.out.next hS2); clear hS2))
  obtain ⟨d0, d1, e0, e1⟩ := Oc_cells HS2.out.at_
  have k2 := HS2.out.drew
  have k3 := setBlk_cell k2.at_ (.int .u32 1) (i := 0)
  rw [Oc_set_d] at k3
  have k4 := setBlk_cell k3.at_ (.int .i32 0) (i := 1)
  rw [Oc_set_m] at k4
  have HS4 := Aside0.mk (k2.next (k3.next k4))
  have q := Oc_cells k3.at_
  clear k2 k4
  refine leaves_cons (f := 44) (args := #[.pointer (some ⟨g, 0, none⟩), .bool true]) (by simp) (by simp [go_sem]) ?_
  refine (store_deferred ⟨g, 0, none⟩ (.int .u32 0) .returning _ d0 e0).mono ?_
  rintro e u' w'' ⟨rfl, rfl, rfl⟩
  refine leaves_cons (f := 43) (args := #[.pointer (some ⟨g, 1, none⟩)]) (by simp [settle]) (by simp [go_sem]) ?_
  refine (unlock_deferred ⟨g, 1, none⟩ _ _ q.2.1 q.2.2.2).mono ?_
  rintro e u' w'' ⟨rfl, rfl, rfl⟩
  simp [Leaves, settle, results, Try.results40]
  exact HS4.out
set_option maxHeartbeats 1600000 in
theorem do_first (g T : Nat) (ls : List Int) (rest : List Value) (w : World) (hg : w.heap[g]? = some (.cells (Oc 0 0 ls rest).toArray T (0, 0))) (hl : ls.length = 256) :
    Calls Try.prog 36 #[.pointer (some ⟨g, 0, none⟩), .func (.func 37) #[.pointer (some ⟨g, 0, none⟩)] #[]] w fun e w' => e = .returned (.tuple #[]) ∧ SetBlk w w' g (.cells (Oc 1 0 (WT 256) rest).toArray T (0, 0)) := by
  have hnot := not_run
  obtain ⟨c0, c1, f0, f1⟩ := Oc_cells hg
  go_enter Try.func36, Try.ntmps36
  go_wp2_with (first
    | (go_at_call 39; refine (bload_calls ⟨g, 0, none⟩ 0 w c0).mono ?_; rintro e w1 ⟨rfl, rfl⟩)
    | (go_at_call 40; refine (slow_calls g T ls rest w hg hl).mono ?_; rintro e w2 ⟨rfl, hS2⟩))
  (try simp only [Exit.inBlock, Exit.then])
  refine bodyPost_end (results_none rfl _ _ _) rfl ?_
  exact ⟨rfl, hS2⟩
theorem do_done (g T : Nat) (ls : List Int) (rest : List Value) (fv : Value) (w : World) (hg : w.heap[g]? = some (.cells (Oc 1 0 ls rest).toArray T (0, 0))) :
    Calls Try.prog 36 #[.pointer (some ⟨g, 0, none⟩), fv] w fun e w' => e = .returned (.tuple #[]) ∧ w = w' := by
  have hnot := not_run
  obtain ⟨c0, c1, f0, f1⟩ := Oc_cells hg
  go_enter Try.func36, Try.ntmps36
  go_wp2_with (go_at_call 39; refine (bload_calls ⟨g, 0, none⟩ 1 w c0).mono ?_; rintro e w1 ⟨rfl, rfl⟩)
  (try simp only [Exit.inBlock, Exit.then])
  refine bodyPost_end (results_none rfl _ _ _) rfl ?_
  exact ⟨rfl, rfl⟩
/-- The words at g: not yet made, or made. -/
def Wd (w : World) (g T : Nat) (rest : List Value) : Prop := ∃ (d : Int) (ls : List Int), w.heap[g]? = some (.cells (Oc d 0 ls rest).toArray T (0, 0)) ∧ ls.length = 256 ∧ (d = 0 ∨ d = 1 ∧ ls = WT 256)
theorem of_calls (g T : Nat) (rest : List Value) (c : Int) (w : World) (h : Wd w g T rest) (h0 : 0 ≤ c) (h1 : c < 256) :
    Calls Try.prog 30 #[.pointer (some ⟨g, 0, none⟩), .int .u8 c] w fun e w' => e = .returned (.int .u32 (bword c)) ∧ SetBlk w w' g (.cells (Oc 1 0 (WT 256) rest).toArray T (0, 0)) := by
  obtain ⟨d, ls, hg, hl, hd⟩ := h
  have hmf : ∀ (fn : Fn) (first cap : Array Value) (w : World), (Instr.makeFunc fn first cap).run Try.prog w = .ok (.func fn first cap) w := fun _ _ _ _ => rfl
  have key : ∀ w1, SetBlk w w1 g (.cells (Oc 1 0 (WT 256) rest).toArray T (0, 0)) → w1.cell? ⟨g, 3 + c.toNat, none⟩ = some (.int .u32 (bword c)) := fun w1 h => by
    rw [blk_cell h.at_, Oc_l c.toNat (by rw [WT_len]; omega), Int.toNat_of_nonneg h0, WT_at 256 c h0 h1]
  have hct : c.toNat < 256 := by omega
  have HG := Aside0.mk hg
  clear hg
  rcases hd with rfl | ⟨rfl, rfl⟩
  · go_enter Try.func30, Try.ntmps30
    go_wp2_with (go_at_call 36; refine (do_first g T ls rest w HG.out hl).mono ?_; rintro e w1 ⟨rfl, hS⟩; have hc := key w1 hS; have HS := Aside0.mk hS; clear hS key)
    go_ret
    exact ⟨rfl, HS.out⟩
  · have hc := key w (SetBlk.same HG.out)
    go_enter Try.func30, Try.ntmps30
    go_wp2_with (go_at_call 36; refine (do_done g T (WT 256) rest _ w HG.out).mono ?_; rintro e w1 ⟨rfl, rfl⟩)
    go_ret
    exact ⟨rfl, SetBlk.same HG.out⟩
end Go.Proofs.Ytdbgbbodkoppdaa
