/- slices.Backward over numbers: its contract. Conditions: the row that it goes over is kept by each round. -/
import Derived.Test.YtcbcoaafdggniaaLz3
import Derived.Test.YtcbcoaafdggniaaG1
namespace Go.Proofs.Ytcbcoaafdggniaa
open Go.RowKit Go.Shelf Go.Proofs.YtcbcoaafdggniaaW.PrintWords Go.Proofs.YtcbcoaafdggniaaW.PrintMore
set_option linter.unusedVariables false
set_option linter.unusedSimpArgs false
attribute [local go_sem] Oper.semAt_some
def backAt (zs : List Int) (j : Nat) : Int × Int := (((zs.length - 1 - j : Nat) : Int), rd zs ((zs.length - 1 - j : Nat) : Int))
/-- f 0, f 1, .., f (k - 1). -/
def uptoF {α : Type} (f : Nat → α) (k : Nat) : List α := (List.range k).map f
theorem uptoF_succ {α : Type} (f : Nat → α) (k : Nat) : uptoF f (k + 1) = uptoF f k ++ [f k] := by simp [uptoF, List.range_succ]
theorem uptoF_len {α : Type} (f : Nat → α) (k : Nat) : (uptoF f k).length = k := by simp [uptoF]
/-- Two blocks lie as they lay. -/
def KpS (p q : Nat) (W W' : World) : Prop := ∀ k, k = p ∨ k = q → W'.heap[k]? = W.heap[k]?
theorem KpS.refl (p q : Nat) (W : World) : KpS p q W W := fun _ _ => rfl
theorem KpS.t {p q : Nat} {A B C : World} (h : KpS p q A B) (k : KpS p q B C) : KpS p q A C := fun i hi => (k i hi).trans (h i hi)
theorem KpS.b {p q n : Nat} (hp : p < n) (hq : q < n) (W : World) (l : Nat) (o o' : Obj) (hl : n ≤ l) (h : W.heap[l]? = some o) (_ : o.isCells = false) (_ : o.isWalk = false) : KpS p q W (W.putObj l o') := fun k hk => World.putObj_heap_other (by rcases hk with rfl | rfl <;> omega)
theorem KpS.cell {p q : Nat} {W W' : World} (h : KpS p q W W') {a : Addr} (ha : a.block = p ∨ a.block = q) : W'.cell? a = W.cell? a := World.cell?_of_block (h a.block ha)
set_option maxRecDepth 100000 in
set_option maxHeartbeats 2000000 in
theorem back1_in {α : Type} (encs : α → Array Value) (f : Nat → α) (F : Fence) (n : Nat) (hF : F.fn 44) (hro : F.round = none) (hn : 1 ≤ n) (l Bs b cap : Nat) (A : Option Addr) (zs : List Int) (hreach : zs.length ≤ 1099511627776) (hf : ∀ j, encs (f j) = #[.int .i64 (backAt zs j).1, .int .i64 (backAt zs j).2]) (J Jx : List α → World → Prop)
    (hY : ∀ pre x W, J pre W → pre.length < zs.length → YieldAt F (n - 1) Try.prog l (encs x) W fun e W' =>
      (e = .returned (.bool true) ∧ J (pre ++ [x]) W' ∧ KpS Bs b W W') ∨ (e = .returned (.bool false) ∧ Jx (pre ++ [x]) W'))
    (W : World) (hBs : W.cell? ⟨Bs, 0, none⟩ = some (.slice A zs.length cap)) (hA : 0 < zs.length → A = some ⟨b, 0, none⟩) (hc : ∀ j : Nat, j < zs.length → W.cell? ⟨b, j, none⟩ = some (.int .i64 (rd zs j))) (h0 : J [] W) :
    CallsIn F n Try.prog 44 #[.func (.yield l) #[] #[], .pointer (some ⟨Bs, 0, none⟩)] W fun e W' => (∃ v, e = .returned v) ∧
      ((∃ ys, ys = uptoF f zs.length ∧ J ys W') ∨ (∃ pre, (∃ k, k ≤ zs.length ∧ pre = uptoF f k) ∧ Jx pre W')) := by
  refine callsIn_of_wp Try.func44 rfl hF ?_ hro
  simp only [Try.ntmps44, List.size_toArray, List.length_cons, List.length_nil, Nat.reduceAdd, Nat.reduceSub, Array.replicate_succ, Array.replicate_zero, List.push_toArray, List.append_toArray, List.nil_append, List.cons_append]
  gi_wp2
  gi_loopw [3] (fun i wr => ∃ k : Nat, k ≤ zs.length ∧ i = .int .i64 ((zs.length : Int) - 1 - k) ∧ J (uptoF f k) wr ∧ KpS Bs b W wr)
    (fun i _ => ((intOf i) + 1).toNat)
  case atStart => exact ⟨0, Nat.zero_le _, by simp, h0, KpS.refl _ _ _⟩
  case round =>
    obtain ⟨k, hk, rfl, hJs, hnx⟩ := hrel
    have hB := (hnx.cell (a := ⟨Bs, 0, none⟩) (.inl rfl)).trans hBs
    by_cases hlt : k < zs.length
    · obtain rfl := hA (by omega)
      have hcx := (hnx.cell (a := ⟨b, zs.length - 1 - k, none⟩) (.inr rfl)).trans (hc (zs.length - 1 - k) (by omega))
      obtain ⟨fn, tmps, assign, body, hy, hR⟩ := hY _ (f k) wr hJs (by rw [uptoF_len]; exact hlt)
      have ei : ((zs.length - 1 - k : Nat) : Int) = (zs.length : Int) - 1 - k := by omega
      have en : ((zs.length : Int) - 1 - k).toNat = zs.length - 1 - k := by omega
      rw [hf k] at hy
      dsimp only [backAt] at hy
      rw [ei] at hy hcx
      have hge : (0 : Int) ≤ (zs.length : Int) - 1 - k := by omega
      have hgl : (zs.length : Int) - 1 - k < (zs.length : Int) := by omega
      gi_wp2
      refine hR.mono ?_
      rintro e W3 (⟨rfl, hJ3, hk3⟩ | ⟨rfl, hJx3⟩)
      · gi_wp2
        go_roundw
        case rel => exact ⟨k + 1, by omega, by go_num, by rw [uptoF_succ]; exact hJ3, hnx.t hk3⟩
        case measure => simp [intOf]; omega
      · gi_wp2
        refine bodyPost_ret (results_none rfl _ _ _) rfl ?_
        exact ⟨⟨_, rfl⟩, .inr ⟨_, ⟨k + 1, by omega, (uptoF_succ _ _).symm⟩, hJx3⟩⟩
    · obtain rfl : k = zs.length := by omega
      have hge : ¬ (0 : Int) ≤ (zs.length : Int) - 1 - zs.length := by omega
      gi_wp2
      go_end0
      first | exact ⟨⟨_, rfl⟩, .inl ⟨_, rfl, hJs⟩⟩ | exact ⟨⟨_, rfl⟩, .inl hJs⟩ | exact .inl hJs | exact hJs
/-- slices.Backward(s): the slice is boxed; the function value has the box. -/
theorem back_calls (A : Option Addr) (n c : Nat) (w : World) : Calls Try.prog 40 #[.slice A n c] w fun e w' => e = .returned (.func (.func 44) #[] #[.pointer (some ⟨w.heap.size, 0, none⟩)]) ∧ w' = w.alloc (.cells #[.slice A n c] 23) := by
  have hmf : ∀ (fn : Fn) (first cap : Array Value) (w : World), (Instr.makeFunc fn first cap).run Try.prog w = .ok (.func fn first cap) w := fun _ _ _ _ => rfl
  go_enter Try.func40, Try.ntmps40
  go_wp2
  go_ret
  exact ⟨rfl, rfl⟩
theorem back_stops {α : Type} (encs : α → Array Value) (f : Nat → α) (F : Fence) (n : Nat) (hF : F.fn 44) (hro : F.round = none) (hn : 1 ≤ n) (Bs b cap : Nat) (A : Option Addr) (zs : List Int) (hreach : zs.length ≤ 1099511627776) (hf : ∀ j, encs (f j) = #[.int .i64 (backAt zs j).1, .int .i64 (backAt zs j).2]) (w : World) (hBl : Bs < w.heap.size)
    (hBs : w.cell? ⟨Bs, 0, none⟩ = some (.slice A zs.length cap)) (hA : 0 < zs.length → A = some ⟨b, 0, none⟩ ∧ b < w.heap.size) (hc : ∀ j : Nat, j < zs.length → w.cell? ⟨b, j, none⟩ = some (.int .i64 (rd zs j))) :
    SeqStopsK F n Try.prog 44 #[.pointer (some ⟨Bs, 0, none⟩)] encs (KpS Bs b) (fun ys => ys = uptoF f zs.length) (fun pre => ∃ k, k ≤ zs.length ∧ pre = uptoF f k) zs.length w := fun l J Jx W hW _ _ hY h0 =>
  back1_in encs f F n hF hro hn l Bs b cap A zs hreach hf J Jx hY W ((hW.cell (p := ⟨Bs, 0, none⟩) hBl).trans hBs) (fun hp => (hA hp).1) (fun j hj => (hW.cell (p := ⟨b, j, none⟩) (hA (by omega)).2).trans (hc j hj)) h0
end Go.Proofs.Ytcbcoaafdggniaa
