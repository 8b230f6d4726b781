/- client.Client's Receive. Conditions: a client that may be, bounded bytes, and what sha's table of roots holds. -/
import Derived.Test.YtnkkjmbpopodlaaDoorG18
import Derived.Test.YtnkkjmbpopodlaaDoorFrm10
import Derived.Test.YtnkkjmbpopodlaaDoorG13
import Derived.Test.YtnkkjmbpopodlaaDoorSha8
namespace Go.Proofs.YtnkkjmbpopodlaaDoor
open Go.Proofs.YtnkkjmbpopodlaaDoorW.PrintLast (i64_w i32_w)
open Go.RowKit Go.Proofs.YtnkkjmbpopodlaaDoorW.PrintWords Go.Proofs.YtnkkjmbpopodlaaDoorW.PrintMore
set_option linter.unusedVariables false
set_option linter.unusedSimpArgs false
theorem openT_len {n : Nat} {b f : List Int} (h : (openT n b f).E = 0) : (openT n b f).B.length ≤ n := by
  unfold openT at h ⊢
  by_cases h1 : b.length ≠ n
  · rw [if_pos h1] at h; simp at h
  · rw [if_neg h1] at h ⊢
    by_cases h2 : le32 (crc 0 b) ≠ f.drop (f.length - 4)
    · rw [if_pos h2] at h; simp at h
    · rw [if_neg h2]; show b.length ≤ n; omega
theorem openL_len {f : List Int} (h : (openL 4096 f).E = 0) : (openL 4096 f).B.length ≤ 4096 := by
  unfold openL at h ⊢
  generalize lenL f = o at h ⊢
  rcases o with _ | n
  · simp
  · dsimp only at h ⊢
    by_cases h1 : (4096 : Int) < (n : Int)
    · rw [if_pos h1] at h; simp at h
    · rw [if_neg h1] at h ⊢
      by_cases h2 : rd f 1 = 1
      · rw [if_pos h2] at h ⊢
        by_cases h3 : (unp n (midL f 6 (f.length - 4))).E ≠ 0
        · rw [if_pos h3] at h; simp at h
        · rw [if_neg h3] at h ⊢
          have := openT_len h
          omega
      · rw [if_neg h2] at h ⊢
        have := openT_len h
        omega
theorem UnPost.got {w w' : World} {r : UR} {e : Ending} (h : UnPost w r e w') : ∃ A d, e = .returned (.tuple #[.slice A r.B.length d, .int .i64 r.E]) ∧ OwB w' w.heap.size (.slice A r.B.length d) r.B ∧ RdB w' A r.B.length r.B ∧ Bytes r.B ∧ r.B.length ≤ d ∧ Below w.heap.size w w' := by
  obtain ⟨⟨v, he, hO, hb⟩, hB⟩ := h
  obtain ⟨A, d, rfl, hd, hr⟩ := hO.reads
  exact ⟨A, d, he, hO, hr, hb, hd, hB⟩
theorem WR_bytes {xs : List Int} (h : Bytes xs) : Bytes (WR xs).2.2.2.1 ∧ (WR xs).2.2.2.1.length ≤ xs.length := by
  have h1 := ctake_bytes h
  have h2 := ctake_len xs
  unfold WR
  split
  · exact ⟨Bytes.nil, by simp⟩
  split
  · exact ⟨Bytes.nil, by simp⟩
  split
  · exact ⟨h1.drop 37, by show ((ctake xs).1.drop 37).length ≤ _; rw [List.length_drop]; omega⟩
  · exact ⟨Bytes.nil, by simp⟩
/-- What is taken. -/
def rcv (c : Cl) (k s : Int) (nm ys : List Int) (er : Int) : Cl × List Int × Bool :=
  if er ≠ 0 ∨ c.e ≠ 0 ∨ fnd c.L nm < 0 then (c, [], false)
  else if (wd c.L (fnd c.L nm).toNat).st ≠ 1 then (c, [], false)
  else if k = 3 ∧ s = (wd c.L (fnd c.L nm).toNat).seq then ({ c with e := 4 }, [], false)
  else if k ≠ 2 then (c, [], false)
  else if (openL 4096 ys).E ≠ 0 then (c, [], false)
  else if shaL (openL 4096 ys).B ≠ (wd c.L (fnd c.L nm).toNat).nm then (c, [], false)
  else ({ c with L := c.L.set (fnd c.L nm).toNat { wd c.L (fnd c.L nm).toNat with st := 2 } }, (openL 4096 ys).B, true)
def recvC (c : Cl) (b : List Int) : Cl × List Int × Bool := rcv c (WR b).1 (WR b).2.1 (WR b).2.2.1 (WR b).2.2.2.1 (WR b).2.2.2.2
theorem recvC_eq {c : Cl} {b : List Int} {k s : Int} {nm ys : List Int} {er : Int} (h : (k, s, nm, ys, er) = WR b) : recvC c b = rcv c k s nm ys er := by
  unfold recvC
  rw [← h]
def RvPost (B g tb : Nat) (v : Value) (S : Nat → Prop) (r : Cl × List Int × Bool) (w : World) (e : Ending) (w' : World) : Prop :=
  ∃ D d, e = .returned (.tuple #[.slice D r.2.1.length d, .bool r.2.2]) ∧ RdB w' D r.2.1.length r.2.1 ∧ r.2.1.length ≤ d ∧ Bytes r.2.1 ∧ PCl w' B g tb r.1 v ∧ Fr w w' S
set_option maxRecDepth 20000 in
set_option maxHeartbeats 6400000 in
theorem recv_calls (S : Nat → Prop) (B g tb : Nat) (c : Cl) (v : Value) (A : Option Addr) (n cp : Nat) (xs : List Int) (w : World) (h : PCl w B g tb c v) (hSg : S g) (hSv : 0 < c.L.length → S (gOf v)) (hok : c.ok) (hx : RdB w A n xs) (hcp : n ≤ cp) (hb : Bytes xs) (hn : n ≤ 549755813888) (hk : Roots w) :
    Calls Tryd.prog 16 #[.pointer (some ⟨g, 0, none⟩), .slice A n cp] w fun e w' => RvPost B g tb v S (recvC c xs) w e w' := by
  have HP := Aside0.mk h
  have HX := Aside0.mk hx
  have HK := Aside0.mk hk
  have HOK := Aside0.mk hok
  have HSS : Aside0 (0 < c.L.length → ∀ q, (q = g ∨ q = gOf v) → S q) := ⟨fun hp q hq => by rcases hq with rfl | rfl; exact hSg; exact hSv hp⟩
  have HSG := Aside0.mk hSg
  have hl1 := hok.l1
  have HNX : Aside0 (xs.length = n) := ⟨hx.1⟩
  have HWB := Aside0.mk (WR_bytes hb)
  obtain ⟨r, hr⟩ : ∃ r, recvC c xs = r := ⟨_, rfl⟩
  have HR := Aside0.mk (fun k s nm ys er (h : (k, s, nm, ys, er) = WR xs) => hr.symm.trans (recvC_eq (c := c) h))
  rw [hr]
  clear h hSg hSv hok hx hk hr
  go_enter Tryd.func16, Tryd.ntmps16
  go_upto_region 2 with (first
    | (go_at_call 29; refine (wread_calls A n cp xs w HX.out hcp hb (by omega)).mono ?_; rintro e w1 ⟨k, s, nm, ys, er, A1, n1, c1, hnm, rfl, hrd, hwr, hB⟩; have HNM := Aside0.mk hnm; have HB1 := Aside0.mk hB; clear hnm hB)
    | ((with_reducible refine at_al 66 ?_); refine new_w rfl rfl rfl rfl (.tmp 13) rfl (of_decide_eq_true rfl) rfl HNM.out rfl ?_; rintro w2 gm N2; have HN2 := Aside0.mk N2; clear N2)
    | fail)
  have HREQ := Aside0.mk (HR.out k s nm ys er hwr.out)
  have HYS : Aside0 (Bytes ys ∧ ys.length ≤ n) := ⟨by have h1 := HWB.out; rw [← hwr.out] at h1; rw [← HNX.out]; exact h1⟩
  have HB2 : Aside0 (Below w.heap.size w w2) := ⟨below_tr' HB1.out HN2.out.below⟩
  have HP2 := Aside0.mk (HP.out.below HB2.out)
  have HM2 := Aside0.mk HN2.out.at_
  have HRD2 : Aside0 (RdB w2 A1 n1 ys ∧ n1 ≤ c1) := ⟨Kd.C_below hrd.out.1 HN2.out.below, hrd.out.2⟩
  have HFI : Aside0 (∀ W, Below w2.heap.size w2 W → Calls Tryd.prog 41 #[.pointer (some ⟨g, 0, none⟩), .agg (Nm nm).toArray] W fun e w' => e = .returned (ptr v (fnd c.L nm)) ∧ Below W.heap.size W w') := ⟨fun W hW => find_calls B g tb c v nm _ W (HP2.out.below hW) rfl HNM.out (by omega)⟩
  have hfr := fst_range (fun x => decide (Wt.nm x = nm)) c.L
  rw [show fst (fun x => decide (Wt.nm x = nm)) c.L = fnd c.L nm from rfl] at hfr
  have HNO : Aside0 (∀ W, Below w2.heap.size w2 W → r = (c, [], false) → RvPost B g tb v S r w (.returned (.tuple #[.slice none 0 0, .bool false])) W) := ⟨fun W hW hrr => by
    rw [hrr]
    exact ⟨none, 0, rfl, Kd.C_nil _ _, Nat.le_refl _, Bytes.nil, HP2.out.below hW, Fr.later (below_tr' HB2.out hW)⟩⟩
  clear HR HWB HX HB1 HN2 hrd hwr
  by_cases her : er = 0
  · subst her
    by_cases hce : c.e = 0
    · by_cases hf : fnd c.L nm < 0
      · have hrr : r = (c, [], false) := by rw [HREQ.out]; unfold rcv; rw [if_pos (.inr (.inr hf))]
        have HRR := Aside0.mk hrr
        rw [ptr_no hf] at HFI
        have HE5 : Aside0 (∀ W, Below w2.heap.size w2 W → W.cell? ⟨g, 5, none⟩ = some (.int .i64 0)) := ⟨fun W hW => by have := (HP2.out.below hW).cells.2.2.2.2.2.1; rw [hce] at this; exact this⟩
        clear hrr hf
        go_wp2_with (first
          | ((with_reducible refine at_ld (w := w2) 40 (.tmp 16) ?_); refine load_arm rfl 40 (.tmp 16) rfl rfl (ld_f2 HM2.out HNM.out) ?_; simp only [Act.put, List.setIfInBounds_toArray, List.set_cons_zero, List.set_cons_succ])
          | (go_at_call 41; refine (HFI.out w2 (Below.refl _ _)).mono ?_; rintro e w3 ⟨rfl, hB3⟩; have HB3 := Aside0.mk hB3; have q5 := HE5.out w3 hB3; clear hB3)
          | fail)
        go_ret2
        exact HNO.out w3 HB3.out HRR.out
      · obtain ⟨i, hi⟩ := Int.eq_ofNat_of_zero_le (show 0 ≤ fnd c.L nm by omega)
        have hil : i < c.L.length := by omega
        obtain ⟨x, hxd⟩ : ∃ x, wd c.L i = x := ⟨_, rfl⟩
        have HXK : Aside0 (x.ok c.seq) := ⟨by rw [← hxd]; exact HOK.out.at hil⟩
        obtain ⟨gr, hgr⟩ : ∃ gr, gOf v = gr := ⟨_, rfl⟩
        have HGR := Aside0.mk hgr
        rw [ptr_at hf, hi, Int.toNat_natCast, hgr] at HFI
        have HREQ : Aside0 (r = if x.st ≠ 1 then (c, [], false) else if k = 3 ∧ s = x.seq then ({ c with e := 4 }, [], false) else if k ≠ 2 then (c, [], false) else if (openL 4096 ys).E ≠ 0 then (c, [], false) else if shaL (openL 4096 ys).B ≠ x.nm then (c, [], false) else ({ c with L := c.L.set i { x with st := 2 } }, (openL 4096 ys).B, true)) := ⟨by
          rw [HREQ.out]
          unfold rcv
          rw [if_neg (by rintro (h | h | h); exact h rfl; exact h hce; exact hf h), hi, Int.toNat_natCast, hxd]⟩
        have HCE : Aside0 (∀ W, Below w2.heap.size w2 W → W.cell? ⟨g, 5, none⟩ = some (.int .i64 0) ∧ W.cell? ⟨gr, i * 36 + 32, none⟩ = some (.bool (x.st == 2)) ∧ W.cell? ⟨gr, i * 36 + 33, none⟩ = some (.int .i64 x.asks) ∧ W.cell? ⟨gr, i * 36 + 34, none⟩ = some (.int .i64 x.seq) ∧ W.rangeAt gr (i * 36) (Nm x.nm)) := ⟨fun W hW => by
          have h1 := (HP2.out.below hW).cells.2.2.2.2.2.1
          rw [hce] at h1
          obtain ⟨a0, a1, a2, a3, a4, _⟩ := own_cells (HP2.out.below hW).own hil
          rw [HGR.out, hxd] at a0 a1 a2 a4
          exact ⟨h1, a0, a1, a2, a4⟩⟩
        have HIS : Aside0 (∀ W, Below w2.heap.size w2 W → Calls Tryd.prog 42 #[.pointer (some ⟨gr, i * 36, none⟩)] W fun e w' => e = .returned (.bool (x.st == 1)) ∧ W = w') := ⟨fun W hW => by
          rw [← HXK.out.asked]
          exact isa_calls gr (i * 36) _ _ W (HCE.out W hW).2.1 (HCE.out W hW).2.2.1⟩
        clear hfr hf hi hgr
        by_cases hst : x.st = 1
        · rw [show (x.st == 1) = true by simp [hst]] at HIS
          rw [if_neg (by simp [hst])] at HREQ
          go_upto_region 5 with (first
            | ((with_reducible refine at_ld (w := w2) 40 (.tmp 16) ?_); refine load_arm rfl 40 (.tmp 16) rfl rfl (ld_f2 HM2.out HNM.out) ?_; simp only [Act.put, List.setIfInBounds_toArray, List.set_cons_zero, List.set_cons_succ])
            | (go_at_call 41; refine (HFI.out w2 (Below.refl _ _)).mono ?_; rintro e w3 ⟨rfl, hB3⟩; have HB3 := Aside0.mk hB3; have q5 := (HCE.out w3 hB3).1; clear hB3)
            | (go_at_call 42; refine (HIS.out w3 HB3.out).mono ?_; rintro e u0 ⟨rfl, rfl⟩)
            | fail)
          clear HIS HFI
          have HD3 : Aside0 (Below w2.heap.size w2 w3.drew) := ⟨Below.drew HB3.out⟩
          obtain ⟨w4, hw4⟩ : ∃ w4, w4 = w3.drew := ⟨_, rfl⟩
          by_cases hk3 : k = 3
          · subst hk3
            by_cases hss : s = x.seq
            · rw [if_pos ⟨rfl, hss⟩] at HREQ
              have HSB : Aside0 ((s == x.seq) = true) := ⟨by simp [hss]⟩
              clear hss
              refine seq_startN [] (.take 0 (.take 1 (.take 2 (.take 3 (.take 4 (.take 5 (.take 6 (.take 7 (.take 8 (.take 9 (.take 10 (.take 11 .done)))))))))))) (by kernel_rfl) (by kernel_rfl) ?_
              refine seq_take (v := ?_) (a' := ?_) rfl rfl (by rfl) (fun w' hw' => ?_) ?_ ?_
              rotate_left 2
              · go_simp
                with_reducible rfl
              · simp only [Act.put, List.setIfInBounds_toArray, List.set_cons_zero, List.set_cons_succ, i64_w, i32_w]
                rfl
              refine seq_take (v := ?_) (a' := ?_) rfl rfl (by rfl) (fun w' hw' => ?_) ?_ ?_
              rotate_left 2
              · obtain ⟨m0, m1, _, _⟩ := msg_cells (Later.heap (Later.trans HD3.out hw') HM2.out) HNM.out; go_simp
                with_reducible rfl
              · simp only [Act.put, List.setIfInBounds_toArray, List.set_cons_zero, List.set_cons_succ, i64_w, i32_w]
                rfl
              refine seq_take (v := ?_) (a' := ?_) rfl rfl (by rfl) (fun w' hw' => ?_) ?_ ?_
              rotate_left 2
              · go_simp
                with_reducible rfl
              · simp only [Act.put, List.setIfInBounds_toArray, List.set_cons_zero, List.set_cons_succ, i64_w, i32_w]
                rfl
              refine seq_take (v := ?_) (a' := ?_) rfl rfl (by rfl) (fun w' hw' => ?_) ?_ ?_
              rotate_left 2
              · go_simp
                with_reducible rfl
              · simp only [Act.put, List.setIfInBounds_toArray, List.set_cons_zero, List.set_cons_succ, i64_w, i32_w]
                rfl
              refine seq_take (v := ?_) (a' := ?_) rfl rfl (by rfl) (fun w' hw' => ?_) ?_ ?_
              rotate_left 2
              · go_simp
                with_reducible rfl
              · simp only [Act.put, List.setIfInBounds_toArray, List.set_cons_zero, List.set_cons_succ, i64_w, i32_w]
                rfl
              refine seq_take (v := ?_) (a' := ?_) rfl rfl (by rfl) (fun w' hw' => ?_) ?_ ?_
              rotate_left 2
              · obtain ⟨m0, m1, _, _⟩ := msg_cells (Later.heap (Later.trans HD3.out hw') HM2.out) HNM.out; go_simp
                with_reducible rfl
              · simp only [Act.put, List.setIfInBounds_toArray, List.set_cons_zero, List.set_cons_succ, i64_w, i32_w]
                rfl
              refine seq_take (v := ?_) (a' := ?_) rfl rfl (by rfl) (fun w' hw' => ?_) ?_ ?_
              rotate_left 2
              · go_simp
                with_reducible rfl
              · simp only [Act.put, List.setIfInBounds_toArray, List.set_cons_zero, List.set_cons_succ, i64_w, i32_w]
                rfl
              refine seq_take (v := ?_) (a' := ?_) rfl rfl (by rfl) (fun w' hw' => ?_) ?_ ?_
              rotate_left 2
              · go_simp
                with_reducible rfl
              · simp only [Act.put, List.setIfInBounds_toArray, List.set_cons_zero, List.set_cons_succ, i64_w, i32_w]
                rfl
              refine seq_take (v := ?_) (a' := ?_) rfl rfl (by rfl) (fun w' hw' => ?_) ?_ ?_
              rotate_left 2
              · go_simp
                with_reducible rfl
              · simp only [Act.put, List.setIfInBounds_toArray, List.set_cons_zero, List.set_cons_succ, i64_w, i32_w]
                rfl
              refine seq_take (v := ?_) (a' := ?_) rfl rfl (by rfl) (fun w' hw' => ?_) ?_ ?_
              rotate_left 2
              · have e4 := (HCE.out w' (Later.trans HD3.out hw')).2.2.2.1; go_simp
                with_reducible rfl
              · simp only [Act.put, List.setIfInBounds_toArray, List.set_cons_zero, List.set_cons_succ, i64_w, i32_w]
                rfl
              refine seq_take (v := ?_) (a' := ?_) rfl rfl (by rfl) (fun w' hw' => ?_) ?_ ?_
              rotate_left 2
              · have hsb := HSB.out; go_simp
                with_reducible rfl
              · simp only [Act.put, List.setIfInBounds_toArray, List.set_cons_zero, List.set_cons_succ, i64_w, i32_w]
                rfl
              refine seq_take (v := ?_) (a' := ?_) rfl rfl (by rfl) (fun w' hw' => ?_) ?_ ?_
              rotate_left 2
              · go_simp
                with_reducible rfl
              · simp only [Act.put, List.setIfInBounds_toArray, List.set_cons_zero, List.set_cons_succ, i64_w, i32_w]
                rfl
              refine seq_endN ?_
              rw [← hw4] at HD3
              go_upto_region 6 with fail
              refine at_w1 (w := w4) hw4 ?_
              clear hw4
              have HP4 := Aside0.mk (HP2.out.below HD3.out)
              have HERR := HP4.out.errS 4
              have q5 := HP4.out.cells.2.2.2.2.2.1
              have qf : w4.frozen? ⟨g, 5, none⟩ = false := blk_frozen HP4.out.blk 5
              have hne : gm ≠ g := fun e => by
                have h1 := Later.heap HD3.out HM2.out
                subst e
                rw [HP4.out.blk] at h1
                injection h1 with h1
                injection h1 with _ h1
                exact absurd h1 (by decide)
              obtain ⟨w5, hw5⟩ : ∃ w5, w5 = w4.setCell ⟨g, 5, none⟩ (.int .i64 4) := ⟨_, rfl⟩
              have HM5 : Aside0 (w5.heap[gm]? = some (.cells (Mc 3 s nm (.slice A1 n1 c1)).toArray 66 (0, 0))) := ⟨by rw [hw5]; exact (Below.heap_setCell w4 ⟨g, 5, none⟩ _ gm hne).trans (Later.heap HD3.out HM2.out)⟩
              rw [← hw5] at HERR
              have HERR := Aside0.mk HERR
              clear hne
              go_upto_region 7 with fail
              refine at_w1 (w := w5) hw5 ?_
              clear hw5 q5 qf
              obtain ⟨m0, m1, _, _⟩ := msg_cells HM5.out HNM.out
              go_wp2
              go_ret2
              rw [HREQ.out]
              exact ⟨none, 0, rfl, Kd.C_nil _ _, Nat.le_refl _, Bytes.nil, HERR.out.1, (Fr.later (below_tr' HB2.out HD3.out)).trans (HERR.out.2.mono (fun q hq => by subst hq; exact HSG.out))⟩
            · rw [if_neg (fun h => hss h.2), if_pos (by omega)] at HREQ
              have HSB : Aside0 ((s == x.seq) = false) := ⟨by simp [hss]⟩
              clear hss
              refine seq_startN [] (.take 0 (.take 1 (.take 2 (.take 3 (.take 4 (.take 5 (.take 6 (.take 7 (.take 8 (.take 9 (.take 10 (.take 11 .done)))))))))))) (by kernel_rfl) (by kernel_rfl) ?_
              refine seq_take (v := ?_) (a' := ?_) rfl rfl (by rfl) (fun w' hw' => ?_) ?_ ?_
              rotate_left 2
              · go_simp
                with_reducible rfl
              · simp only [Act.put, List.setIfInBounds_toArray, List.set_cons_zero, List.set_cons_succ, i64_w, i32_w]
                rfl
              refine seq_take (v := ?_) (a' := ?_) rfl rfl (by rfl) (fun w' hw' => ?_) ?_ ?_
              rotate_left 2
              · obtain ⟨m0, m1, _, _⟩ := msg_cells (Later.heap (Later.trans HD3.out hw') HM2.out) HNM.out; go_simp
                with_reducible rfl
              · simp only [Act.put, List.setIfInBounds_toArray, List.set_cons_zero, List.set_cons_succ, i64_w, i32_w]
                rfl
              refine seq_take (v := ?_) (a' := ?_) rfl rfl (by rfl) (fun w' hw' => ?_) ?_ ?_
              rotate_left 2
              · go_simp
                with_reducible rfl
              · simp only [Act.put, List.setIfInBounds_toArray, List.set_cons_zero, List.set_cons_succ, i64_w, i32_w]
                rfl
              refine seq_take (v := ?_) (a' := ?_) rfl rfl (by rfl) (fun w' hw' => ?_) ?_ ?_
              rotate_left 2
              · go_simp
                with_reducible rfl
              · simp only [Act.put, List.setIfInBounds_toArray, List.set_cons_zero, List.set_cons_succ, i64_w, i32_w]
                rfl
              refine seq_take (v := ?_) (a' := ?_) rfl rfl (by rfl) (fun w' hw' => ?_) ?_ ?_
              rotate_left 2
              · go_simp
                with_reducible rfl
              · simp only [Act.put, List.setIfInBounds_toArray, List.set_cons_zero, List.set_cons_succ, i64_w, i32_w]
                rfl
              refine seq_take (v := ?_) (a' := ?_) rfl rfl (by rfl) (fun w' hw' => ?_) ?_ ?_
              rotate_left 2
              · obtain ⟨m0, m1, _, _⟩ := msg_cells (Later.heap (Later.trans HD3.out hw') HM2.out) HNM.out; go_simp
                with_reducible rfl
              · simp only [Act.put, List.setIfInBounds_toArray, List.set_cons_zero, List.set_cons_succ, i64_w, i32_w]
                rfl
              refine seq_take (v := ?_) (a' := ?_) rfl rfl (by rfl) (fun w' hw' => ?_) ?_ ?_
              rotate_left 2
              · go_simp
                with_reducible rfl
              · simp only [Act.put, List.setIfInBounds_toArray, List.set_cons_zero, List.set_cons_succ, i64_w, i32_w]
                rfl
              refine seq_take (v := ?_) (a' := ?_) rfl rfl (by rfl) (fun w' hw' => ?_) ?_ ?_
              rotate_left 2
              · go_simp
                with_reducible rfl
              · simp only [Act.put, List.setIfInBounds_toArray, List.set_cons_zero, List.set_cons_succ, i64_w, i32_w]
                rfl
              refine seq_take (v := ?_) (a' := ?_) rfl rfl (by rfl) (fun w' hw' => ?_) ?_ ?_
              rotate_left 2
              · go_simp
                with_reducible rfl
              · simp only [Act.put, List.setIfInBounds_toArray, List.set_cons_zero, List.set_cons_succ, i64_w, i32_w]
                rfl
              refine seq_take (v := ?_) (a' := ?_) rfl rfl (by rfl) (fun w' hw' => ?_) ?_ ?_
              rotate_left 2
              · have e4 := (HCE.out w' (Later.trans HD3.out hw')).2.2.2.1; go_simp
                with_reducible rfl
              · simp only [Act.put, List.setIfInBounds_toArray, List.set_cons_zero, List.set_cons_succ, i64_w, i32_w]
                rfl
              refine seq_take (v := ?_) (a' := ?_) rfl rfl (by rfl) (fun w' hw' => ?_) ?_ ?_
              rotate_left 2
              · have hsb := HSB.out; go_simp
                with_reducible rfl
              · simp only [Act.put, List.setIfInBounds_toArray, List.set_cons_zero, List.set_cons_succ, i64_w, i32_w]
                rfl
              refine seq_take (v := ?_) (a' := ?_) rfl rfl (by rfl) (fun w' hw' => ?_) ?_ ?_
              rotate_left 2
              · go_simp
                with_reducible rfl
              · simp only [Act.put, List.setIfInBounds_toArray, List.set_cons_zero, List.set_cons_succ, i64_w, i32_w]
                rfl
              refine seq_endN ?_
              rw [← hw4] at HD3
              go_upto_region 7 with fail
              refine at_w1 (w := w4) hw4 ?_
              clear hw4
              obtain ⟨m0, m1, _, _⟩ := msg_cells (Later.heap HD3.out HM2.out) HNM.out
              go_wp2
              go_ret2
              exact HNO.out w4 HD3.out HREQ.out
          · rw [if_neg (fun h => hk3 h.1)] at HREQ
            have HK3 : Aside0 ((k == 3) = false) := ⟨by simp [hk3]⟩
            refine seq_startN [] (.take 0 (.take 1 (.take 2 (.take 3 (.take 4 (.take 5 (.take 6 (.take 7 (.take 8 (.take 9 (.take 10 (.take 11 .done)))))))))))) (by kernel_rfl) (by kernel_rfl) ?_
            refine seq_take (v := ?_) (a' := ?_) rfl rfl (by rfl) (fun w' hw' => ?_) ?_ ?_
            rotate_left 2
            · go_simp
              with_reducible rfl
            · simp only [Act.put, List.setIfInBounds_toArray, List.set_cons_zero, List.set_cons_succ, i64_w, i32_w]
              rfl
            refine seq_take (v := ?_) (a' := ?_) rfl rfl (by rfl) (fun w' hw' => ?_) ?_ ?_
            rotate_left 2
            · obtain ⟨m0, m1, _, _⟩ := msg_cells (Later.heap (Later.trans HD3.out hw') HM2.out) HNM.out; go_simp
              with_reducible rfl
            · simp only [Act.put, List.setIfInBounds_toArray, List.set_cons_zero, List.set_cons_succ, i64_w, i32_w]
              rfl
            refine seq_take (v := ?_) (a' := ?_) rfl rfl (by rfl) (fun w' hw' => ?_) ?_ ?_
            rotate_left 2
            · have hkk := HK3.out; go_simp
              with_reducible rfl
            · simp only [Act.put, List.setIfInBounds_toArray, List.set_cons_zero, List.set_cons_succ, i64_w, i32_w]
              rfl
            refine seq_take (v := ?_) (a' := ?_) rfl rfl (by rfl) (fun w' hw' => ?_) ?_ ?_
            rotate_left 2
            · go_simp
              with_reducible rfl
            · simp only [Act.put, List.setIfInBounds_toArray, List.set_cons_zero, List.set_cons_succ, i64_w, i32_w]
              rfl
            refine seq_off (a' := ?_) rfl rfl (by rfl) ?_ ?_
            rotate_left
            · simp only [Act.put, List.setIfInBounds_toArray, List.set_cons_zero, List.set_cons_succ, i64_w, i32_w]
              rfl
            refine seq_off (a' := ?_) rfl rfl (by rfl) ?_ ?_
            rotate_left
            · simp only [Act.put, List.setIfInBounds_toArray, List.set_cons_zero, List.set_cons_succ, i64_w, i32_w]
              rfl
            refine seq_off (a' := ?_) rfl rfl (by rfl) ?_ ?_
            rotate_left
            · simp only [Act.put, List.setIfInBounds_toArray, List.set_cons_zero, List.set_cons_succ, i64_w, i32_w]
              rfl
            refine seq_off (a' := ?_) rfl rfl (by rfl) ?_ ?_
            rotate_left
            · simp only [Act.put, List.setIfInBounds_toArray, List.set_cons_zero, List.set_cons_succ, i64_w, i32_w]
              rfl
            refine seq_off (a' := ?_) rfl rfl (by rfl) ?_ ?_
            rotate_left
            · simp only [Act.put, List.setIfInBounds_toArray, List.set_cons_zero, List.set_cons_succ, i64_w, i32_w]
              rfl
            refine seq_off (a' := ?_) rfl rfl (by rfl) ?_ ?_
            rotate_left
            · simp only [Act.put, List.setIfInBounds_toArray, List.set_cons_zero, List.set_cons_succ, i64_w, i32_w]
              rfl
            refine seq_off (a' := ?_) rfl rfl (by rfl) ?_ ?_
            rotate_left
            · simp only [Act.put, List.setIfInBounds_toArray, List.set_cons_zero, List.set_cons_succ, i64_w, i32_w]
              rfl
            refine seq_take (v := ?_) (a' := ?_) rfl rfl (by rfl) (fun w' hw' => ?_) ?_ ?_
            rotate_left 2
            · go_simp
              with_reducible rfl
            · simp only [Act.put, List.setIfInBounds_toArray, List.set_cons_zero, List.set_cons_succ, i64_w, i32_w]
              rfl
            refine seq_endN ?_
            rw [← hw4] at HD3
            go_upto_region 7 with fail
            refine at_w1 (w := w4) hw4 ?_
            clear hw4 hk3
            obtain ⟨m0, m1, _, _⟩ := msg_cells (Later.heap HD3.out HM2.out) HNM.out
            by_cases hk2 : k = 2
            · subst hk2
              rw [if_neg (by simp)] at HREQ
              have HM4 := Aside0.mk (Later.heap HD3.out HM2.out)
              have hn1 : ys.length = n1 := HRD2.out.1.1
              have HOP : Aside0 (Calls Tryd.prog 43 #[.slice A1 n1 c1, .int .i64 4096] w4 fun e w' => UnPost w4 (openL 4096 ys) e w') := ⟨open_calls A1 n1 c1 ys 4096 w4 (Kd.C_below HRD2.out.1 HD3.out) HYS.out.1 HRD2.out.2 (by have := HYS.out.2; omega)⟩
              have HOL := Aside0.mk (fun h => openL_len (f := ys) h)
              generalize openL 4096 ys = R at *
              clear hn1
              go_upto_region 10 with (first
                | ((with_reducible refine at_ld (w := w4) 37 (.tmp 56) ?_); refine load_arm rfl 37 (.tmp 56) rfl rfl (ld_f3b HM4.out HNM.out) ?_; simp only [Act.put, List.setIfInBounds_toArray, List.set_cons_zero, List.set_cons_succ])
                | (go_at_call 43; refine HOP.out.mono ?_; rintro e w5 hup; obtain ⟨A5, d5, rfl, hO5, hr5, hby5, hd5, hB5⟩ := hup.got; have HO5 := Aside0.mk hO5; have HR5 := Aside0.mk hr5; have HBY5 := Aside0.mk hby5; have HD5 := Aside0.mk hd5; have HB5 := Aside0.mk hB5; clear hup hO5 hr5 hby5 hd5 hB5)
                | fail)
              have HD5d : Aside0 (Below w2.heap.size w2 w5.drew) := ⟨Below.drew (Later.trans HD3.out HB5.out)⟩
              clear m0 m1
              by_cases hre : R.E = 0
              · rw [if_neg (by simp [hre])] at HREQ
                have HRE := Aside0.mk hre
                have HRL := Aside0.mk (HOL.out hre)
                have hgd : Tryd.prog.eqGuardType Tryd.prog.depth 40 = false := by kernel_rfl
                have HSM : Aside0 (Calls Tryd.prog 44 #[.slice A5 R.B.length d5] w5.drew fun e w' => e = .returned (.agg (Nm (shaL R.B)).toArray) ∧ Below w5.drew.heap.size w5.drew w') := ⟨psum_calls A5 _ d5 R.B w5.drew (Kd.C_below HR5.out (Below.drew (Below.refl _ w5))) HBY5.out (HK.out.below (below_tr' HB2.out HD5d.out)) (by have := HRL.out; omega)⟩
                have H32 := Aside0.mk (shaL_len R.B)
                rw [hre]
                refine seq_startN [] (.take 0 (.take 1 (.take 2 (.take 3 (.take 5 (.take 6 (.take 7 (.take 8 (.run 4 (.take 9 (.take 10 .done))))))))))) (by kernel_rfl) (by kernel_rfl) ?_
                refine seq_take (v := ?_) (a' := ?_) rfl rfl (by rfl) (fun w' hw' => ?_) ?_ ?_
                rotate_left 2
                · go_simp
                  with_reducible rfl
                · simp only [Act.put, List.setIfInBounds_toArray, List.set_cons_zero, List.set_cons_succ, i64_w, i32_w]
                  rfl
                refine seq_take (v := ?_) (a' := ?_) rfl rfl (by rfl) (fun w' hw' => ?_) ?_ ?_
                rotate_left 2
                · go_simp
                  with_reducible rfl
                · simp only [Act.put, List.setIfInBounds_toArray, List.set_cons_zero, List.set_cons_succ, i64_w, i32_w]
                  rfl
                refine seq_take (v := ?_) (a' := ?_) rfl rfl (by rfl) (fun w' hw' => ?_) ?_ ?_
                rotate_left 2
                · go_simp
                  with_reducible rfl
                · simp only [Act.put, List.setIfInBounds_toArray, List.set_cons_zero, List.set_cons_succ, i64_w, i32_w]
                  rfl
                refine seq_take (v := ?_) (a' := ?_) rfl rfl (by rfl) (fun w' hw' => ?_) ?_ ?_
                rotate_left 2
                · go_simp
                  with_reducible rfl
                · simp only [Act.put, List.setIfInBounds_toArray, List.set_cons_zero, List.set_cons_succ, i64_w, i32_w]
                  rfl
                refine seq_take (v := ?_) (a' := ?_) rfl rfl (by rfl) (fun w' hw' => ?_) ?_ ?_
                rotate_left 2
                · go_simp
                  with_reducible rfl
                · simp only [Act.put, List.setIfInBounds_toArray, List.set_cons_zero, List.set_cons_succ, i64_w, i32_w]
                  rfl
                refine seq_take (v := ?_) (a' := ?_) rfl rfl (by rfl) (fun w' hw' => ?_) ?_ ?_
                rotate_left 2
                · go_simp
                  with_reducible rfl
                · simp only [Act.put, List.setIfInBounds_toArray, List.set_cons_zero, List.set_cons_succ, i64_w, i32_w]
                  rfl
                refine seq_take (v := ?_) (a' := ?_) rfl rfl (by rfl) (fun w' hw' => ?_) ?_ ?_
                rotate_left 2
                · go_simp
                  with_reducible rfl
                · simp only [Act.put, List.setIfInBounds_toArray, List.set_cons_zero, List.set_cons_succ, i64_w, i32_w]
                  rfl
                refine seq_take (v := _) (a' := ?_) rfl rfl (by rfl) (fun w' hw' => load_run rfl (p := .pointer (some ⟨gr, i * 36, none⟩)) rfl (run_loadAt_mid _ gr (i * 36) _ (Nm x.nm) _ (HCE.out w' (Later.trans HD5d.out hw')).2.2.2.2 Tryd.underlying40 rfl (size_d x.nm HXK.out.1))) ?_ ?_
                rotate_left
                · simp only [Act.put, List.setIfInBounds_toArray, List.set_cons_zero, List.set_cons_succ, i64_w, i32_w]
                  rfl
                refine seq_run ?_
                refine do_call rfl rfl (by rfl) rfl Tryd.func44 (by kernel_rfl) rfl #[.slice A5 R.B.length d5] (by simp only [List.map_toArray, List.map_cons, List.map_nil]; rfl) ?_
                with_reducible refine (HSM.out).mono ?_
                rintro e w6 ⟨rfl, hB6⟩
                refine ⟨_, ?_, rfl, ?_, fun _ => hB6, ?_⟩
                rotate_left
                · simp only [Act.put, List.setIfInBounds_toArray, List.set_cons_zero, List.set_cons_succ, i64_w, i32_w]
                  rfl
                have HB6 : Aside0 (Below w2.heap.size w2 w6) := ⟨Later.trans HD5d.out hB6⟩
                have HB56 : Aside0 (Below w5.heap.size w5 w6) := ⟨(Below.drew (Below.refl _ w5)).trans hB6⟩
                clear hB6
                refine seq_take (v := _) (a' := ?_) rfl rfl (by rfl) (fun w' hw' => bin_run .neq 40 (.tmp 65) (.tmp 69) 40 rfl (p := .agg (Nm (shaL R.B)).toArray) (q := .agg (Nm x.nm).toArray) rfl rfl (run_eqGuard_agg _ .neq _ _ _ _ _ hgd) (dg_neq H32.out HXK.out.1)) ?_ ?_
                rotate_left
                · simp only [Act.put, List.setIfInBounds_toArray, List.set_cons_zero, List.set_cons_succ, i64_w, i32_w]
                  rfl
                refine seq_take (v := ?_) (a' := ?_) rfl rfl (by rfl) (fun w' hw' => ?_) ?_ ?_
                rotate_left 2
                · go_simp
                  with_reducible rfl
                · simp only [Act.put, List.setIfInBounds_toArray, List.set_cons_zero, List.set_cons_succ, i64_w, i32_w]
                  rfl
                refine seq_endN ?_
                by_cases hsx : shaL R.B = x.nm
                · rw [if_neg (by simp [hsx])] at HREQ
                  rw [show (!decide (shaL R.B = x.nm)) = false by simp [hsx]]
                  have HP6 := Aside0.mk (HP2.out.below HB6.out)
                  obtain ⟨f0, _⟩ := set_at4 x.nm (.bool (x.st == 2)) (.int .i64 x.asks) (.int .i64 x.seq) (.int .i64 x.due) (.bool true) HXK.out.1
                  have HEL := HP6.out.el (x' := { x with st := 2 }) (u := .bool true) hil (j := 32) (by omega) HXK.out.1 (by rw [hxd]; exact f0)
                  rw [HGR.out] at HEL
                  have HOU := OwB.far (p := ⟨gr, i * 36 + 32, none⟩) (OwB.below HO5.out HB56.out) (fun e => by
                    have h1 := Kd.R_base HO5.out gr e.symm
                    have h2 := (HP2.out.gne (by omega)).2.2.2
                    rw [HGR.out] at h2
                    have := HD3.out.size
                    omega) (.bool true)
                  have e0 := (HCE.out w6 HB6.out).2.1
                  have ef := (own_cells HP6.out.own hil).2.2.2.2.2.2.2 32
                  rw [HGR.out] at ef
                  have HEL := Aside0.mk HEL
                  have HOU := Aside0.mk (OwB.parts HOU)
                  clear f0 hsx
                  go_wp2
                  go_ret2
                  rw [HREQ.out]
                  refine ⟨A5, d5, rfl, HOU.out.2, HOU.out.1, HBY5.out, HEL.out.1, (Fr.later (below_tr' HB2.out HB6.out)).trans (HEL.out.2.mono ?_)⟩
                  rw [← HGR.out]
                  exact HSS.out (by omega)
                · rw [if_pos hsx] at HREQ
                  rw [show (!decide (shaL R.B = x.nm)) = true by simp [hsx]]
                  clear hsx
                  go_wp2
                  go_ret2
                  exact HNO.out w6 HB6.out HREQ.out
              · rw [if_pos hre] at HREQ
                have HNE : Aside0 ((R.E == 0) = false ∧ (R.E != 0) = true) := ⟨by simp [hre], by simp [hre]⟩
                clear hre
                refine seq_startN [] (.take 0 (.take 1 (.take 2 (.take 3 (.take 5 (.take 6 (.take 7 (.take 8 (.run 4 (.take 9 (.take 10 .done))))))))))) (by kernel_rfl) (by kernel_rfl) ?_
                refine seq_take (v := ?_) (a' := ?_) rfl rfl (by rfl) (fun w' hw' => ?_) ?_ ?_
                rotate_left 2
                · go_simp
                  with_reducible rfl
                · simp only [Act.put, List.setIfInBounds_toArray, List.set_cons_zero, List.set_cons_succ, i64_w, i32_w]
                  rfl
                refine seq_take (v := ?_) (a' := ?_) rfl rfl (by rfl) (fun w' hw' => ?_) ?_ ?_
                rotate_left 2
                · obtain ⟨z1, z2⟩ := HNE.out; go_simp
                  with_reducible rfl
                · simp only [Act.put, List.setIfInBounds_toArray, List.set_cons_zero, List.set_cons_succ, i64_w, i32_w]
                  rfl
                refine seq_take (v := ?_) (a' := ?_) rfl rfl (by rfl) (fun w' hw' => ?_) ?_ ?_
                rotate_left 2
                · go_simp
                  with_reducible rfl
                · simp only [Act.put, List.setIfInBounds_toArray, List.set_cons_zero, List.set_cons_succ, i64_w, i32_w]
                  rfl
                refine seq_off (a' := ?_) rfl rfl (by rfl) ?_ ?_
                rotate_left
                · simp only [Act.put, List.setIfInBounds_toArray, List.set_cons_zero, List.set_cons_succ, i64_w, i32_w]
                  rfl
                refine seq_off (a' := ?_) rfl rfl (by rfl) ?_ ?_
                rotate_left
                · simp only [Act.put, List.setIfInBounds_toArray, List.set_cons_zero, List.set_cons_succ, i64_w, i32_w]
                  rfl
                refine seq_off (a' := ?_) rfl rfl (by rfl) ?_ ?_
                rotate_left
                · simp only [Act.put, List.setIfInBounds_toArray, List.set_cons_zero, List.set_cons_succ, i64_w, i32_w]
                  rfl
                refine seq_off (a' := ?_) rfl rfl (by rfl) ?_ ?_
                rotate_left
                · simp only [Act.put, List.setIfInBounds_toArray, List.set_cons_zero, List.set_cons_succ, i64_w, i32_w]
                  rfl
                refine seq_off (a' := ?_) rfl rfl (by rfl) ?_ ?_
                rotate_left
                · simp only [Act.put, List.setIfInBounds_toArray, List.set_cons_zero, List.set_cons_succ, i64_w, i32_w]
                  rfl
                refine seq_run ?_
                refine do_off (a' := ?_) rfl rfl (by rfl) ?_ ?_
                rotate_left
                · simp only [Act.put, List.setIfInBounds_toArray, List.set_cons_zero, List.set_cons_succ, i64_w, i32_w]
                  rfl
                refine ⟨fun _ => Later.refl _, ?_⟩
                refine seq_off (a' := ?_) rfl rfl (by rfl) ?_ ?_
                rotate_left
                · simp only [Act.put, List.setIfInBounds_toArray, List.set_cons_zero, List.set_cons_succ, i64_w, i32_w]
                  rfl
                refine seq_take (v := ?_) (a' := ?_) rfl rfl (by rfl) (fun w' hw' => ?_) ?_ ?_
                rotate_left 2
                · go_simp
                  with_reducible rfl
                · simp only [Act.put, List.setIfInBounds_toArray, List.set_cons_zero, List.set_cons_succ, i64_w, i32_w]
                  rfl
                refine seq_endN ?_
                go_wp2
                go_ret2
                exact HNO.out w5.drew HD5d.out HREQ.out
            · rw [if_pos hk2] at HREQ
              have hkk : (k == 2) = false := by simp [hk2]
              have hkk2 : (k != 2) = true := by simp [hk2]
              clear hk2
              go_wp2
              go_ret2
              exact HNO.out w4 HD3.out HREQ.out
        · rw [show (x.st == 1) = false by simp [hst]] at HIS
          rw [if_pos (by simp [hst])] at HREQ
          clear hst
          go_wp2_with (first
            | ((with_reducible refine at_ld (w := w2) 40 (.tmp 16) ?_); refine load_arm rfl 40 (.tmp 16) rfl rfl (ld_f2 HM2.out HNM.out) ?_; simp only [Act.put, List.setIfInBounds_toArray, List.set_cons_zero, List.set_cons_succ])
            | (go_at_call 41; refine (HFI.out w2 (Below.refl _ _)).mono ?_; rintro e w3 ⟨rfl, hB3⟩; have HB3 := Aside0.mk hB3; have q5 := (HCE.out w3 hB3).1; clear hB3)
            | (go_at_call 42; refine (HIS.out w3 HB3.out).mono ?_; rintro e u0 ⟨rfl, rfl⟩)
            | fail)
          go_ret2
          exact HNO.out w3 HB3.out HREQ.out
    · have hrr : r = (c, [], false) := by rw [HREQ.out]; unfold rcv; rw [if_pos (.inr (.inl hce))]
      have HRR := Aside0.mk hrr
      have HE5 : Aside0 (∀ W, Below w2.heap.size w2 W → W.cell? ⟨g, 5, none⟩ = some (.int .i64 c.e)) := ⟨fun W hW => (HP2.out.below hW).cells.2.2.2.2.2.1⟩
      have hne : (c.e == 0) = false := by simp [hce]
      have hne2 : (c.e != 0) = true := by simp [hce]
      clear hrr hce
      go_wp2_with (first
        | ((with_reducible refine at_ld (w := w2) 40 (.tmp 16) ?_); refine load_arm rfl 40 (.tmp 16) rfl rfl (ld_f2 HM2.out HNM.out) ?_; simp only [Act.put, List.setIfInBounds_toArray, List.set_cons_zero, List.set_cons_succ])
        | (go_at_call 41; refine (HFI.out w2 (Below.refl _ _)).mono ?_; rintro e w3 ⟨rfl, hB3⟩; have HB3 := Aside0.mk hB3; have q5 := HE5.out w3 hB3; clear hB3)
        | fail)
      go_ret2
      exact HNO.out w3 HB3.out HRR.out
  · have hrr : r = (c, [], false) := by rw [HREQ.out]; unfold rcv; rw [if_pos (.inl her)]
    have HRR := Aside0.mk hrr
    have hne : (er == 0) = false := by simp [her]
    have hne2 : (er != 0) = true := by simp [her]
    clear hrr her
    go_wp2_with (first
      | ((with_reducible refine at_ld (w := w2) 40 (.tmp 16) ?_); refine load_arm rfl 40 (.tmp 16) rfl rfl (ld_f2 HM2.out HNM.out) ?_; simp only [Act.put, List.setIfInBounds_toArray, List.set_cons_zero, List.set_cons_succ])
      | (go_at_call 41; refine (HFI.out w2 (Below.refl _ _)).mono ?_; rintro e w3 ⟨rfl, hB3⟩; have HB3 := Aside0.mk hB3; clear hB3)
      | fail)
    go_ret2
    exact HNO.out w3 HB3.out HRR.out
end Go.Proofs.YtnkkjmbpopodlaaDoor
