/- Rows of chunks; lighterageref10.First, Chunks. Conditions: their own. -/
import Derived.Test.YtdfahblgnbdndaaDoorCut1
import Derived.Test.YtdfahblgnbdndaaDoorG1
namespace Go.Proofs.YtdfahblgnbdndaaDoor
open Go.RowKit Go.Proofs.YtdfahblgnbdndaaDoorW.PrintWords Go.Proofs.YtdfahblgnbdndaaDoorW.PrintMore
set_option linter.unusedVariables false
set_option linter.unusedSimpArgs false
/-- A row of slices of one's own, from base on. -/
abbrev OwT (w : World) (base : Nat) (v : Value) (xs : List S3) : Prop := KS.R 33 w base (fun _ => True) v xs
section
variable {ops : Array Oper} {rest : List Oper} {o : Oper} {a : Act} {Q : Exit → Act → World → Prop}
theorem appT {w0 W : World} (base : Nat) (hgd : o.guard = none) (s x : Operand)
    (ho : o.op = .call { callee := .builtin .append, args := #[s, x], argTypes := #[61, 61] })
    (v : Value) (xs ys : List S3) (A : Option Addr) (m c : Nat) (hs : a.eval s = v) (hx : a.eval x = .slice A m c)
    (HO : OwT W base v xs) (HR : RdS W A m ys) (HB : Below base w0 W) (hbase : base ≤ W.heap.size) (hl : (xs.length + m) * 24 ≤ 140737488355328)
    (h : ∀ v1 w1, OwT w1 base v1 (xs ++ ys) → Below base w0 w1 → W.grownBy w1 v.ownBlock → (v1.ownBlock = v.ownBlock ∨ ∃ b, v1.ownBlock = some b ∧ W.heap.size ≤ b) → wpList Tryd.prog ops Q rest (a.put o.dst v1) w1) :
    wpList Tryd.prog ops Q (o :: rest) a W :=
  Kd.R_append_rows KS base hgd s x 61 33 (.slice none 0 0) 24 ho Tryd.underlying61 infoS rfl (by decide) (by decide) v xs ys A m c (fun _ => True) (fun _ => False) hs hx HO HR (fun _ _ h => h) (fun _ h => h.elim) (fun _ _ => trivial) HB hbase hl h
end
/-- Chunks that are read. -/
def ChR (w : World) (L : List (S3 × List Int)) : Prop := ∀ p ∈ L, RdB w p.1.1 p.2.length p.2 ∧ p.1.2.1 = p.2.length ∧ p.2.length ≤ p.1.2.2 ∧ Bytes p.2
theorem ChR.nil (w : World) : ChR w [] := fun _ h => absurd h List.not_mem_nil
theorem ChR.below {w w1 : World} {L : List (S3 × List Int)} (h : ChR w L) (k : Below w.heap.size w w1) : ChR w1 L := fun p hp => ⟨Kd.C_below (h p hp).1 k, (h p hp).2⟩
theorem ChR.snoc {w : World} {L : List (S3 × List Int)} (h : ChR w L) {A : Option Addr} {c : Nat} {X : List Int} (hr : RdB w A X.length X) (hc : X.length ≤ c) (hb : Bytes X) : ChR w (L ++ [((A, X.length, c), X)]) := fun p hp => by
  rcases List.mem_append.1 hp with hp | hp
  · exact h p hp
  · rw [List.mem_singleton.1 hp]
    exact ⟨hr, rfl, hc, hb⟩
set_option maxRecDepth 20000 in
set_option maxHeartbeats 1600000 in
theorem first_calls (A B : Option Addr) (cw n c a0 b0 c0 : Nat) (xs : List Int) (w : World) (hw : RdW w A 256 (WT 256)) (h : RdB w B n xs) (hc : n ≤ c) (hb : Bytes xs) (hn : n ≤ 1099511627776) (hm : mayB a0 b0 c0 = true) :
    Calls Tryd.prog 85 #[.slice A 256 cw, .slice B n c, .agg #[.int .i64 a0, .int .i64 b0, .int .i64 c0]] w fun e w' => e = .returned (.int .i64 ((fi c0 (pw b0) xs a0 : Nat) : Int)) ∧ Below w.heap.size w w' := by
  obtain rfl : xs.length = n := h.1
  have HX := Aside0.mk h
  have HW := Aside0.mk hw
  obtain ⟨m1, m2, m3, m4⟩ : 1 ≤ a0 ∧ a0 ≤ b0 ∧ b0 ≤ c0 ∧ c0 ≤ 4096 := by unfold mayB at hm; simp at hm; omega
  have hp := pw_pos b0
  have hp2 := pw_le (n := b0) (by omega)
  obtain ⟨P, hP⟩ : ∃ P, pw b0 = P := ⟨_, rfl⟩
  rw [hP] at hp hp2 ⊢
  have HP := Aside0.mk hP
  clear h hw hm hP
  go_enter Tryd.func85, Tryd.ntmps85
  go_wp2_with (first
    | (go_at_call 105; refine (power_calls b0 _ (by omega) (by omega)).mono ?_; rw [HP.out]; rintro e u0 ⟨rfl, rfl⟩))
  obtain ⟨w1, hw1⟩ : ∃ w1, w1 = w.alloc (.cells #[.int .i64 (a0 : Int), .int .i64 (b0 : Int), .int .i64 (c0 : Int)] 24) := ⟨_, rfl⟩
  have L1 : Aside0 (Later w w1) := ⟨by rw [hw1]; exact below_alloc (Below.refl _ _) _⟩
  have hc2 : w1.cell? ⟨w.heap.size, 2, none⟩ = some (.int .i64 (c0 : Int)) := by rw [hw1, blk_cell (blk_new w _) 2]; rfl
  rw [← hw1]
  clear hw1
  go_loopw [8] (fun v wr => ∃ k : Nat, v = .int .i64 k ∧ a0 ≤ k ∧ fi c0 P xs k = fi c0 P xs a0 ∧ w1 = wr) (fun v _ => xs.length - (intOf v).toNat)
  case atStart => exact ⟨a0, rfl, Nat.le_refl _, rfl, rfl⟩
  case round =>
    obtain ⟨k, rfl, hk, hfi, rfl⟩ := hrel
    have HF := Aside0.mk hfi
    clear hfi
    by_cases hlt : k < xs.length
    · by_cases hmx : k = c0
      · have hmxB : ((k : Int) == (c0 : Int)) = true := by simp [hmx]
        have HE : Aside0 (fi c0 P xs a0 = k) := ⟨by rw [← HF.out, fi_here hlt (.inl hmx)]⟩
        clear hmx
        go_wp2
        (try simp only [Exit.inBlock, Exit.then])
        exact bodyPost_ret (results_tmp rfl _ _ _) rfl ⟨by rw [HE.out]; rfl, L1.out⟩
      · have hmxB : ((k : Int) == (c0 : Int)) = false := by simp; omega
        obtain ⟨hcut, hrT⟩ := cutTo (Kd.C_below HX.out L1.out) hc (k : Int) (by omega) (by omega)
        rw [Int.toNat_natCast] at hcut hrT
        have HT := Aside0.mk hrT
        have hov0 := hov_range (xs.take k)
        have hpI : (0 : Int) < (P : Int) := by omega
        have hpz : ((P : Int) == 0) = false := by simp; omega
        have hmod : (hov (xs.take k)).tmod (P : Int) = hov (xs.take k) % (P : Int) := Int.tmod_eq_emod_of_nonneg hov0.1
        have hml := Int.emod_lt_of_pos (hov (xs.take k)) hpI
        have hm0 := Int.emod_nonneg (hov (xs.take k)) (Int.ne_of_gt hpI)
        clear hrT
        by_cases hz : hov (xs.take k) % (P : Int) = 0
        · have HE : Aside0 (fi c0 P xs a0 = k) := ⟨by rw [← HF.out, fi_here hlt (.inr hz)]⟩
          rw [hz] at hmod hml hm0
          obtain ⟨V, hV⟩ : ∃ V, hov (xs.take k) = V := ⟨_, rfl⟩
          rw [hV] at hmod hov0
          have HV := Aside0.mk hV
          clear hz hmx hV
          go_wp2_with (go_at_call 106; refine (over_calls A B cw k c (xs.take k) w1 (Kd.C_below HW.out L1.out) HT.out (hb.take k) (by omega)).mono ?_; rw [HV.out]; rintro e u0 ⟨rfl, rfl⟩)
          (try simp only [Exit.inBlock, Exit.then])
          exact bodyPost_ret (results_tmp rfl _ _ _) rfl ⟨by rw [HE.out]; rfl, L1.out⟩
        · have HE : Aside0 (fi c0 P xs (k + 1) = fi c0 P xs a0) := ⟨by rw [← HF.out, fi_next hlt (by rintro (h | h) <;> contradiction)]⟩
          obtain ⟨V, hV⟩ : ∃ V, hov (xs.take k) = V := ⟨_, rfl⟩
          rw [hV] at hmod hov0 hz hml hm0
          obtain ⟨Z, hZ⟩ : ∃ Z, V % (P : Int) = Z := ⟨_, rfl⟩
          rw [hZ] at hmod hz hml hm0
          have HV := Aside0.mk hV
          clear hmx hV hZ
          go_wp2_with (go_at_call 106; refine (over_calls A B cw k c (xs.take k) w1 (Kd.C_below HW.out L1.out) HT.out (hb.take k) (by omega)).mono ?_; rw [HV.out]; rintro e u0 ⟨rfl, rfl⟩)
          go_roundw
          case rel => exact ⟨k + 1, by go_num, by omega, HE.out, trivial⟩
          case measure => simp [intOf]; omega
    · have HE : Aside0 (fi c0 P xs a0 = xs.length) := ⟨by rw [← HF.out, fi_end hlt]⟩
      go_wp2
      (try simp only [Exit.inBlock, Exit.then])
      exact bodyPost_ret (results_tmp rfl _ _ _) rfl ⟨by rw [HE.out]; rfl, L1.out⟩
def sN (v : Value) : Nat := match v with
  | .slice _ n _ => n
  | _ => 0
theorem al_step {mn mx p : Nat} (h1 : 1 ≤ mn) (h2 : mn ≤ mx) {b : List Int} (hb : b ≠ []) : al mn mx p [] b = b.take (fi mx p b mn) :: al mn mx p [] (b.drop (fi mx p b mn)) := by
  have := al_first (p := p) h1 h2 b [] (by simpa using hb)
  simp only [List.nil_append, List.length_nil, Nat.zero_add] at this
  rwa [Nat.max_eq_left h1] at this
theorem al_nil (mn mx p : Nat) : al mn mx p [] [] = [] := by unfold al wrL; simp
def Pc (a b c : Nat) : Array Value := #[.int .i64 (a : Int), .int .i64 (b : Int), .int .i64 (c : Int)]
theorem pm_cells {w : World} {g : Nat} {a b c : Int} {t : TypeId} {fr : Nat × Nat} (h : w.heap[g]? = some (.cells #[.int .i64 a, .int .i64 b, .int .i64 c] t fr)) :
    w.cell? ⟨g, 0, none⟩ = some (.int .i64 a) ∧ w.cell? ⟨g, 1, none⟩ = some (.int .i64 b) ∧ w.cell? ⟨g, 2, none⟩ = some (.int .i64 c) := by
  refine ⟨?_, ?_, ?_⟩ <;> (unfold World.cell?; rw [show (⟨g, _, none⟩ : Addr).block = g from rfl, h]; rfl)
/-- What goes along in lighterageref10.Chunks. -/
structure PcI (w1 : World) (mn mx p : Nat) (xs rest : List Int) (A : Option Addr) (c : Nat) (L : List (S3 × List Int)) (vo : Value) (wr : World) : Prop where
  rd : RdB w1 A rest.length rest
  le : rest.length ≤ c
  by_ : Bytes rest
  ln : L.length + rest.length ≤ xs.length
  out : OwT wr w1.heap.size vo (L.map (·.1))
  ch : ChR w1 L
  eq : L.map (·.2) ++ al mn mx p [] rest = al mn mx p [] xs
  below : Later w1 wr
set_option maxRecDepth 20000 in
set_option maxHeartbeats 1600000 in
theorem pchunks_calls (B : Option Addr) (n c a0 b0 c0 : Nat) (xs : List Int) (w : World) (h : RdB w B n xs) (hc : n ≤ c) (hb : Bytes xs) (hn : n ≤ 1073741824) (hm : mayB a0 b0 c0 = true) :
    Calls Tryd.prog 67 #[.slice B n c, .agg #[.int .i64 a0, .int .i64 b0, .int .i64 c0]] w fun e w' => ∃ vo L, e = .returned vo ∧ OwT w' w.heap.size vo (L.map (·.1)) ∧ ChR w' L ∧ L.map (·.2) = al a0 c0 (pw b0) [] xs ∧ Below w.heap.size w w' := by
  obtain rfl : xs.length = n := h.1
  have HX := Aside0.mk h
  have HM := Aside0.mk hm
  obtain ⟨m1, m2, m3, m4⟩ : 1 ≤ a0 ∧ a0 ≤ b0 ∧ b0 ≤ c0 ∧ c0 ≤ 4096 := by unfold mayB at hm; simp at hm; omega
  have HL := Aside0.mk (WT_len 256)
  clear h hm
  go_enter Tryd.func67, Tryd.ntmps67
  go_wp2_with (go_at_call 84; refine (rwords_calls _).mono ?_; rintro e w1 ⟨v1, rfl, hO, hB⟩; obtain ⟨B1, c1, rfl, hc1, hr1⟩ := OwW.reads hO; rw [HL.out] at hr1 hc1; rw [HL.out]; have HR1 := Aside0.mk hr1; have HB1 := Aside0.mk hB; clear hO hB hr1 hc1)
  have HBX := Aside0.mk (Later.heap HB1.out (blk_new w (.cells #[.int .i64 (a0 : Int), .int .i64 (b0 : Int), .int .i64 (c0 : Int)] 24)))
  have LB : Aside0 (Below w.heap.size w w1) := ⟨Below.trans (below_alloc (Below.refl _ w) _) (HB1.out.mono (by simp))⟩
  clear HB1
  go_loopw [0, 6, 7] (fun v0 vo _ wr => ∃ rest A c L, v0 = .slice A rest.length c ∧ PcI w1 a0 c0 (pw b0) xs rest A c L vo wr) (fun v0 _ _ _ => sN v0)
  case atStart => exact ⟨xs, B, c, [], rfl, ⟨Kd.C_below HX.out LB.out, hc, hb, by simp, Kd.R_nil _ _ _ _ _, ChR.nil _, rfl, Later.refl _⟩⟩
  case round =>
    obtain ⟨rest, A, c9, L, rfl, hI⟩ := hrel
    have HI := Aside0.mk hI
    have hrl := hI.ln
    clear hI
    by_cases hne : rest = []
    · subst hne
      go_wp2
      (try simp only [Exit.inBlock, Exit.then])
      refine bodyPost_ret (results_tmp rfl _ _ _) rfl ⟨u6, L, rfl, Kd.R_lower HI.out.out LB.out.size, HI.out.ch.below HI.out.below, ?_, below_tr LB.out HI.out.below LB.out.size⟩
      have := HI.out.eq
      rwa [al_nil, List.append_nil] at this
    · have hlt : 0 < rest.length := List.length_pos_iff.2 hne
      have hltI : (0 : Int) < (rest.length : Int) := by omega
      have hfp := fi_pos (mx := c0) (p := pw b0) hne m1
      have HST := Aside0.mk (al_step (p := pw b0) m1 (Nat.le_trans m2 m3) hne)
      obtain ⟨hq0, hq1, hq2⟩ := pm_cells (Later.heap HI.out.below HBX.out)
      obtain ⟨f, hf⟩ : ∃ f, fi c0 (pw b0) rest a0 = f := ⟨_, rfl⟩
      rw [hf] at hfp HST
      have HF := Aside0.mk hf
      obtain ⟨hf1, hf2⟩ := hfp
      obtain ⟨hcut, hrT⟩ := cutTo HI.out.rd HI.out.le (f : Int) (by omega) (by omega)
      obtain ⟨D, dD, hcutF, hrF⟩ : ∃ D dD, (∀ W : World, (Instr.slice 33 (.slice A rest.length c9) (some (.int .i64 (f : Int))) none none).run Tryd.prog W = .ok (.slice D (rest.length - f) dD) W) ∧ (RdB w1 D (rest.length - f) (rest.drop f) ∧ rest.length - f ≤ dD) := by
        have h := cutFrom HI.out.rd HI.out.le (f : Int) (by omega) (by omega)
        rw [Int.toNat_natCast] at h
        have hle := HI.out.le
        exact ⟨_, _, h.1, h.2, by omega⟩
      rw [Int.toNat_natCast] at hcut hrT
      have HT := Aside0.mk hrT
      have HD := Aside0.mk hrF
      clear hf hrT hrF
      go_wp2_with (first
        | (go_at_call 85; (with_reducible refine at_cw wr ?_); refine (first_calls B1 A c1 rest.length c9 a0 b0 c0 rest wr (Kd.C_below HR1.out HI.out.below) (Kd.C_below HI.out.rd HI.out.below) HI.out.le HI.out.by_ (by omega) HM.out).mono ?_; rw [HF.out]; rintro e w2 ⟨rfl, hB⟩; have L2 : Aside0 (Later wr w2) := ⟨hB⟩; clear hB)
        | (at_builtin; refine appT (w0 := w1) w1.heap.size rfl (.tmp 16) (.tmp 20) rfl u6 (L.map (·.1)) [(A, f, c9)] (some ⟨w2.heap.size, 0, none⟩) 1 1 rfl rfl (Kd.R_below HI.out.out (Later.trans L2.out (below_alloc (Later.refl _) _))) (rdS_lit w2 [(A, f, c9)] _ 1 rfl rfl (by simp)) (below_alloc (below_tr HI.out.below L2.out HI.out.below.size) _) (by have := HI.out.below.size; have := Later.size L2.out; simp; omega) (by rw [List.length_map]; omega) ?_; intro v3 w3 hO hB hG _; have HO3 := Aside0.mk hO; have HB3 := Aside0.mk hB; have HG3 := Aside0.mk hG; clear hO hB hG))
      have hld : (rest.drop f).length = rest.length - f := List.length_drop
      have hlt2 : (rest.take f).length = f := by rw [List.length_take]; omega
      have HLD := Aside0.mk hld
      have HLT := Aside0.mk hlt2
      clear hld hlt2
      go_roundw
      case rel =>
        refine ⟨rest.drop f, D, dD, L ++ [((A, (rest.take f).length, c9), rest.take f)], by rw [HLD.out], ⟨by rw [HLD.out]; exact HD.out.1, by rw [HLD.out]; exact HD.out.2, HI.out.by_.drop f, by rw [HLD.out]; simp; omega, ?_, HI.out.ch.snoc (by rw [HLT.out]; exact HT.out) (by have := HI.out.le; rw [HLT.out]; omega) (HI.out.by_.take f), ?_, HB3.out⟩⟩
        · rw [List.map_append, HLT.out]
          exact HO3.out
        · rw [List.map_append, List.append_assoc, ← HI.out.eq, HST.out]
          rfl
      case measure =>
        show rest.length - f < rest.length
        omega
end Go.Proofs.YtdfahblgnbdndaaDoor
