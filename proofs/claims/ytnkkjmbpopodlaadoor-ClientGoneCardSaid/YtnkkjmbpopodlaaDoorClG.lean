/- The walk of ClientGone. Conditions: its own, and what sha's table of roots holds. -/
import Derived.Test.YtnkkjmbpopodlaaDoorClR
import Derived.Test.YtnkkjmbpopodlaaDoorFrm11
import Derived.Test.YtnkkjmbpopodlaaDoorFrmP
namespace Go.Proofs.YtnkkjmbpopodlaaDoor
open Go.Proofs.YtnkkjmbpopodlaaDoorW.PrintLast (i64_w i32_w)
open Go.RowKit Go.Proofs.YtnkkjmbpopodlaaDoorW.PrintWords Go.Proofs.YtnkkjmbpopodlaaDoorW.PrintMore
set_option linter.unusedVariables false
set_option linter.unusedSimpArgs false
/-- What is written is read as it was. -/
theorem WR_put {k s : Int} {nm body : List Int} (hn : nm.length = 32) (hm : mayB k s body.length = true) : WR (cput (wbody k s nm body)) = (k, s, nm, body, 0) := by
  have hmm := hm
  unfold mayB at hmm
  rw [decide_eq_true_iff] at hmm
  have e : wbody k s nm body = k :: ((s.toNat % 256 : Nat) : Int) :: ((s.toNat / 256 % 256 : Nat) : Int) :: ((s.toNat / 65536 % 256 : Nat) : Int) :: ((s.toNat / 16777216 % 256 : Nat) : Int) :: (nm ++ body) := by simp [wbody, le32]
  have hl : (wbody k s nm body).length = 37 + body.length := wbody_len hn
  have h0 : rd (wbody k s nm body) 0 = k := by rw [e]; rfl
  have hs : wseq (wbody k s nm body) = s := by
    have h1 : wseq (wbody k s nm body) = ((s.toNat % 256 : Nat) : Int) + 256 * ((s.toNat / 256 % 256 : Nat) : Int) + 65536 * ((s.toNat / 65536 % 256 : Nat) : Int) + 16777216 * ((s.toNat / 16777216 % 256 : Nat) : Int) := by rw [e]; rfl
    rw [h1]
    omega
  have hd5 : ((wbody k s nm body).drop 5).take 32 = nm := by
    rw [e]
    show (nm ++ body).take 32 = nm
    rw [List.take_left' hn]
  have hd37 : (wbody k s nm body).drop 37 = body := by
    rw [e]
    show (nm ++ body).drop 32 = body
    rw [List.drop_left' hn]
  have ht : ctake (cput (wbody k s nm body)) = (wbody k s nm body, 0) := ctake_put _
  have hml : mayB (rd (wbody k s nm body) 0) (wseq (wbody k s nm body)) ((wbody k s nm body).length - 37) = true := by
    rw [h0, hs, hl, Nat.add_sub_cancel_left]
    exact hm
  rw [WR_ok ht rfl (by omega) hml, h0, hs, hd5, hd37]
theorem ls_recv {W : World} {B gw g tb : Nat} {c : Cl} {v : Value} (h : LS W B gw g tb c v) (hB : B ≤ W.heap.size) (hok : c.ok) {A : Option Addr} {n cp : Nat} {xs : List Int} (hx : RdB W A n xs) (hcp : n ≤ cp) (hb : Bytes xs) (hn : n ≤ 549755813888) (hk : Roots W) {c' : Cl} {X : List Int} {b : Bool} (hc : recvC c xs = (c', X, b)) :
    Calls Tryd.prog 16 #[.pointer (some ⟨g, 0, none⟩), .slice A n cp] W fun e w' => ∃ D d, e = .returned (.tuple #[.slice D X.length d, .bool b]) ∧ RdB w' D X.length X ∧ LS w' B gw g tb c' v ∧ Below B W w' ∧ Fr W w' (SetW g v) := by
  refine (recv_calls (SetW g v) B g tb c v A n cp xs W h.pc (.inl rfl) h.pc.setv hok hx hcp hb hn hk).mono ?_
  rintro e w' ⟨D, d, rfl, hr, _, _, hP, hF⟩
  rw [hc] at hr hP ⊢
  exact ⟨D, d, rfl, hr, h.fr hF hP, h.pc.setB hF hB, hF⟩
/-- The clients of ClientGone. -/
def gv (N : List Int) (st seq due asks : Int) (e : Int) : Cl := ⟨[⟨N, st, seq, due, asks⟩], 1, 2, 3, seq, e⟩
theorem gv_ok (N : List Int) (h : N.length = 32) (hb : Bytes N) (st seq due asks e : Int) (h0 : 0 ≤ seq) (h1 : 0 ≤ asks) (h2 : asks ≤ seq) (h3 : st = 0 ∧ asks = 0 ∨ st = 1 ∧ 0 < asks ∨ st = 2) : (gv N st seq due asks e).ok := by
  refine ⟨fun x hx => ?_, by show (1 : Int) ≤ 1; omega, by show (1 : Int) ≤ 8; omega, by show (1 : Int) ≤ 2; omega, by show (2 : Int) ≤ 1000; omega, by show (1 : Int) ≤ 3; omega, by show (3 : Int) ≤ 16; omega, h0, by show 1 ≤ 1024; omega⟩
  rw [List.mem_singleton.1 hx]
  exact ⟨h, hb, h0, Int.le_refl _, h1, h2, h3⟩
theorem gv0 (n : Int) : clOf [n] 1 2 3 = gv (nmOf n) 0 0 0 0 0 := rfl
theorem gv1 (N : List Int) : stepC (gv N 0 0 0 0 0) 0 = (gv N 1 1 2 1 0, [askB 1 N]) := rfl
theorem gv2 (N : List Int) : stepC (gv N 1 1 2 1 0) 2 = (gv N 1 2 4 2 0, [askB 2 N]) := rfl
theorem gv3 (N : List Int) : stepC (gv N 1 2 4 2 4) 9 = (gv N 1 2 4 2 4, []) := rfl
theorem gv_fnd (N : List Int) (st seq due asks e : Int) : fnd (gv N st seq due asks e).L N = 0 := by simp [gv, fnd, fst]
theorem gv_gone (N : List Int) : rcv (gv N 1 2 4 2 0) 3 2 N [] 0 = (gv N 1 2 4 2 4, [], false) := by
  unfold rcv
  rw [gv_fnd]
  rfl
theorem gv_not (N : List Int) (k : Int) (hk : k ≠ 2) : rcv (gv N 1 2 4 2 0) 3 k N [] 0 = (gv N 1 2 4 2 0, [], false) := by
  unfold rcv
  rw [gv_fnd, if_neg (by rintro (h | h | h); exact h rfl; exact h rfl; omega), if_neg (by show ¬ (1 : Int) ≠ 1; omega), if_neg (by rintro ⟨_, h⟩; exact hk h), if_pos (by omega)]
theorem gv_shut (N F : List Int) : rcv (gv N 1 2 4 2 4) 2 9 N F 0 = (gv N 1 2 4 2 4, [], false) := by
  unfold rcv
  rw [if_pos (.inr (.inl (by show (4 : Int) ≠ 0; omega)))]
theorem gv_give (X F : List Int) (h : openL 4096 F = ⟨X, 0⟩) : rcv (gv (shaL X) 1 2 4 2 0) 2 9 (shaL X) F 0 = (gv (shaL X) 2 2 4 2 0, X, true) := by
  unfold rcv
  rw [gv_fnd, if_neg (by rintro (h | h | h); exact h rfl; exact h rfl; omega), if_neg (by show ¬ (1 : Int) ≠ 1; omega), if_neg (by rintro ⟨h, _⟩; omega), if_neg (by omega), h, if_neg (by simp), if_neg (by show ¬ shaL X ≠ shaL X; simp)]
  rfl
set_option maxRecDepth 20000 in
set_option maxHeartbeats 6400000 in
theorem clientGone_walk (seq : Int) (w : World) (hK : Roots w) (b1 : -9223372036854775808 ≤ seq ∧ seq ≤ 9223372036854775807) :
    Calls Tryd.prog 4 #[.int .i64 seq] w fun e w' => e = .returned (.bool true) ∧ Below w.heap.size w w' := by
  obtain ⟨w1, hw1⟩ : ∃ w1, w1 = w.alloc (.cells #[.int .i64 2] 3) := ⟨_, rfl⟩
  have HB1 : Aside0 (Below w.heap.size w w1) := ⟨by rw [hw1]; exact below_alloc (Below.refl _ w) _⟩
  have HK1 := Aside0.mk (hK.below HB1.out)
  have hr : RdZ w1 (some ⟨w.heap.size, 0, none⟩) 1 [2] := by
    refine Kd.C_of_reads (d := (0 : Int)) ⟨rfl, by omega, fun _ => ⟨_, rfl, fun j hj => ?_⟩⟩
    obtain rfl : j = 0 := by omega
    rw [add_plain, hw1, World.cell?_alloc_mark]
    rfl
  have HBG : Aside0 (Calls Tryd.prog 8 #[.slice (some ⟨w.heap.size, 0, none⟩) 1 1, .int .i64 1, .int .i64 2, .int .i64 3] w1 fun e w' => BgPost (clOf [2] 1 2 3) w1 e w') := ⟨begin_calls _ 1 1 [2] 1 2 3 w1 hr (fun x hx => by rw [List.mem_singleton.1 hx]; omega) (by unfold inR; omega)⟩
  have h32 := nmOf_len 2
  have hby := nmOf_bytes 2
  have HNO : Aside0 (∀ W, Calls Tryd.prog 21 #[.int .i64 2] W fun e w' => e = .returned (.agg (Nm (nmOf 2)).toArray) ∧ Below W.heap.size W w') := ⟨fun W => nameof_calls 2 W (by omega) (by omega)⟩
  have HCH : Aside0 (∀ W, Calls Tryd.prog 14 #[.int .i64 2] W fun e w' => ∃ B d, e = .returned (.slice B (chunkL 2).length d) ∧ Aside0 (OwB w' W.heap.size (.slice B (chunkL 2).length d) (chunkL 2)) ∧ Below W.heap.size W w') := ⟨fun W => chunk_calls 2 W (by omega) (by omega)⟩
  have hcl := chunkL_len 2
  have hcb := chunkL_bytes 2
  have hopen : openL 4096 (sealL (chunkL 2)) = ⟨chunkL 2, 0⟩ := by rw [open_seal 4096 (by omega), if_neg (by omega)]
  have hsl := seal_len (chunkL 2)
  have hsb := seal_bytes hcb
  have HGIVE := gv_give (chunkL 2) (sealL (chunkL 2)) hopen
  rw [show shaL (chunkL 2) = nmOf 2 from rfl] at HGIVE
  have hseal : ∀ W B d, OwB W w1.heap.size (.slice B (chunkL 2).length d) (chunkL 2) → Calls Tryd.prog 13 #[.slice B (chunkL 2).length d] W fun e w' => ∃ v, e = .returned v ∧ OwB w' W.heap.size v (sealL (chunkL 2)) ∧ Below W.heap.size W w' := fun W B d hO => rseal_calls B _ d _ W (OwB.parts hO).2 hcb (OwB.parts hO).1 (by omega)
  rw [gv0] at HBG
  have ha := around_range seq 6 (by omega)
  have HAR := Aside0.mk (fun W : World => around_calls seq 6 W b1.1 b1.2 (by omega) (by omega))
  generalize around seq 6 = k at *
  have hslen : (sealL (chunkL 2)).length ≤ 25 := by have := sealB_le (chunkL 2); omega
  generalize sealL (chunkL 2) = F at *
  generalize chunkL 2 = X at *
  generalize nmOf 2 = N at *
  have K0 := Aside0.mk (gv_ok N h32 hby 0 0 0 0 0 (by omega) (by omega) (by omega) (by omega))
  have K1 := Aside0.mk (gv_ok N h32 hby 1 1 2 1 0 (by omega) (by omega) (by omega) (by omega))
  have K2 := Aside0.mk (gv_ok N h32 hby 1 2 4 2 0 (by omega) (by omega) (by omega) (by omega))
  have K4 := Aside0.mk (gv_ok N h32 hby 1 2 4 2 4 (by omega) (by omega) (by omega) (by omega))
  have S0 : Aside0 (∀ W B gw g tb v, LS W B gw g tb (gv N 0 0 0 0 0) v → B ≤ W.heap.size → Calls Tryd.prog 20 #[.pointer (some ⟨g, 0, none⟩), .int .i64 0] W fun e w' => ∃ A cp, e = .returned (.slice A 1 cp) ∧ LS w' B gw g tb (gv N 1 1 2 1 0) v ∧ Below B W w') := ⟨fun W B gw g tb v h hB => ls_step h hB K0.out (by simp [gv]) 0 (by omega) (by omega) (by rw [gv1]) (by rw [gv1]; rfl)⟩
  have S2 : Aside0 (∀ W B gw g tb v, LS W B gw g tb (gv N 1 1 2 1 0) v → B ≤ W.heap.size → Calls Tryd.prog 20 #[.pointer (some ⟨g, 0, none⟩), .int .i64 2] W fun e w' => ∃ A cp, e = .returned (.slice A 1 cp) ∧ LS w' B gw g tb (gv N 1 2 4 2 0) v ∧ Below B W w') := ⟨fun W B gw g tb v h hB => ls_step h hB K1.out (by simp [gv]) 2 (by omega) (by omega) (by rw [gv2]) (by rw [gv2]; rfl)⟩
  have S9 : Aside0 (∀ W B gw g tb v, LS W B gw g tb (gv N 1 2 4 2 4) v → B ≤ W.heap.size → Calls Tryd.prog 20 #[.pointer (some ⟨g, 0, none⟩), .int .i64 9] W fun e w' => ∃ A cp, e = .returned (.slice A 0 cp) ∧ LS w' B gw g tb (gv N 1 2 4 2 4) v ∧ Below B W w') := ⟨fun W B gw g tb v h hB => ls_step h hB K4.out (by simp [gv]) 9 (by omega) (by omega) (by rw [gv3]) (by rw [gv3]; rfl)⟩
  have hg1 : WR (cput (wbody 3 k N [])) = (3, k, N, [], 0) := WR_put h32 (by unfold mayB; simp; omega)
  have hg2 : WR (cput (wbody 2 9 N F)) = (2, 9, N, F, 0) := WR_put h32 (by unfold mayB; simp; omega)
  -- behind the Gone, behind the Give
  obtain ⟨c5, c6, X6, b6, hr5, hr6, hk5, hcase⟩ : ∃ (c5 c6 : Cl) (X6 : List Int) (b6 : Bool), recvC (gv N 1 2 4 2 0) (cput (wbody 3 k N [])) = (c5, [], false) ∧ recvC c5 (cput (wbody 2 9 N F)) = (c6, X6, b6) ∧ c5.ok ∧ ((k = 2 ∧ c6 = gv N 1 2 4 2 4 ∧ b6 = false) ∨ (k ≠ 2 ∧ c6 = gv N 2 2 4 2 0 ∧ b6 = true)) := by
    by_cases hk2 : k = 2
    · subst hk2
      exact ⟨gv N 1 2 4 2 4, gv N 1 2 4 2 4, [], false, by rw [recvC_eq hg1.symm, gv_gone], by rw [recvC_eq hg2.symm, gv_shut], K4.out, .inl ⟨rfl, rfl, rfl⟩⟩
    · exact ⟨gv N 1 2 4 2 0, gv N 2 2 4 2 0, X, true, by rw [recvC_eq hg1.symm, gv_not N k hk2], by rw [recvC_eq hg2.symm, HGIVE], K2.out, .inr ⟨hk2, rfl, rfl⟩⟩
  have HCASE := Aside0.mk hcase
  have hwb1 : Bytes (cput (wbody 3 k N [])) := cput_bytes (wbody_bytes (by omega) (by omega) hby Bytes.nil)
  have hwb2 : Bytes (cput (wbody 2 9 N F)) := cput_bytes (wbody_bytes (by omega) (by omega) hby hsb)
  have hwl1 : (cput (wbody 3 k N [])).length ≤ 100 := by rw [cput_length, wbody_len h32]; simp
  have hwl2 : (cput (wbody 2 9 N F)).length ≤ 100 := by rw [cput_length, wbody_len h32]; omega
  have R1 : Aside0 (∀ W B gw g tb v A n cp, LS W B gw g tb (gv N 1 2 4 2 0) v → B ≤ W.heap.size → RdB W A n (cput (wbody 3 k N [])) → n ≤ cp → Roots W → Calls Tryd.prog 16 #[.pointer (some ⟨g, 0, none⟩), .slice A n cp] W fun e w' => ∃ D d, e = .returned (.tuple #[.slice D 0 d, .bool false]) ∧ LS w' B gw g tb c5 v ∧ Below B W w' ∧ Fr W w' (SetW g v)) := ⟨fun W B gw g tb v A n cp h hB hx hcp hk => (ls_recv h hB K2.out hx hcp hwb1 (by have := hx.1; omega) hk hr5).mono fun e w' ⟨D, d, he, _, h1, h2, h3⟩ => ⟨D, d, he, h1, h2, h3⟩⟩
  have R2 : Aside0 (∀ W B gw g tb v A n cp, LS W B gw g tb c5 v → B ≤ W.heap.size → RdB W A n (cput (wbody 2 9 N F)) → n ≤ cp → Roots W → Calls Tryd.prog 16 #[.pointer (some ⟨g, 0, none⟩), .slice A n cp] W fun e w' => ∃ D d, e = .returned (.tuple #[.slice D X6.length d, .bool b6]) ∧ LS w' B gw g tb c6 v ∧ Below B W w') := ⟨fun W B gw g tb v A n cp h hB hx hcp hk => (ls_recv h hB hk5 hx hcp hwb2 (by have := hx.1; omega) hk hr6).mono fun e w' ⟨D, d, he, _, h1, h2, _⟩ => ⟨D, d, he, h1, h2⟩⟩
  have HRB1 : Aside0 (∀ W, Calls Tryd.prog 15 #[.agg (Mc 3 k N (.string ⟨#[]⟩)).toArray] W fun e w' => ∃ v, e = .returned v ∧ OwB w' W.heap.size v (cput (wbody 3 k N [])) ∧ Below W.heap.size W w') := ⟨fun W => rbytes_calls 3 k N ⟨#[]⟩ _ W rfl h32 hby (by show 0 ≤ _; omega) (by omega) (by omega) (by omega) (by omega)⟩
  have HRB2 : Aside0 (∀ W, Calls Tryd.prog 15 #[.agg (Mc 2 9 N (.string (strOfNums F))).toArray] W fun e w' => ∃ v, e = .returned v ∧ OwB w' W.heap.size v (cput (wbody 2 9 N F)) ∧ Below W.heap.size W w') := ⟨fun W => by
    have := rbytes_calls 2 9 N (strOfNums F) _ W rfl h32 hby (by rw [size_str]; omega) (by omega) (by omega) (by omega) (by omega)
    rw [bytesOf_str hsb] at this
    exact this⟩
  have HSE : Aside0 (∀ W B d, OwB W w1.heap.size (.slice B X.length d) X → Calls Tryd.prog 13 #[.slice B X.length d] W fun e w' => ∃ v, e = .returned v ∧ OwB w' W.heap.size v F ∧ Below W.heap.size W w') := ⟨hseal⟩
  have HER4 : Aside0 (∀ W B gw g tb v, LS W B gw g tb (gv N 1 2 4 2 4) v → Calls Tryd.prog 22 #[.pointer (some ⟨g, 0, none⟩)] W fun e w' => e = .returned (.int .i64 4) ∧ W = w') := ⟨fun W B gw g tb v h => errno_calls B g tb _ v W h.pc⟩
  have HER0 : Aside0 (∀ W B gw g tb v, LS W B gw g tb (gv N 2 2 4 2 0) v → Calls Tryd.prog 22 #[.pointer (some ⟨g, 0, none⟩)] W fun e w' => e = .returned (.int .i64 0) ∧ W = w') := ⟨fun W B gw g tb v h => errno_calls B g tb _ v W h.pc⟩
  have HLF : Aside0 (∀ W B gw g tb v, LS W B gw g tb (gv N 1 2 4 2 4) v → Calls Tryd.prog 10 #[.pointer (some ⟨g, 0, none⟩)] W fun e w' => ∃ A cp, e = .returned (.slice A 1 cp) ∧ Below W.heap.size W w') := ⟨fun W B gw g tb v h => (left_calls B g tb _ v W h.pc (by show 1 ≤ _; omega)).mono fun e w' ⟨u, he, hO, hB⟩ => by
    obtain ⟨A, cp, rfl, _⟩ := Kd.R_reads hO
    exact ⟨A, cp, he, hB⟩⟩
  have HDN : Aside0 (∀ W B gw g tb v, LS W B gw g tb (gv N 2 2 4 2 0) v → Calls Tryd.prog 23 #[.pointer (some ⟨g, 0, none⟩)] W fun e w' => e = .returned (.bool true) ∧ Below W.heap.size W w') := ⟨fun W B gw g tb v h => done_calls B g tb _ v W h.pc (by show 1 ≤ _; omega)⟩
  have HLV := Aside0.mk (fun W => clives_calls W)
  have HN32 := Aside0.mk h32
  clear hr h32 hby K0 K1 K2 K4 hcl hcb hopen hsl hsb HGIVE hg1 hg2 hr5 hr6 hk5 hcase hwb1 hwb2 hwl1 hwl2 hseal b1
  go_enter Tryd.func4, Tryd.ntmps4
  go_upto_region 8 with (first
    | (go_at_call 8; rw [← hw1]; refine HBG.out.mono ?_; rintro e w2 ⟨gw, g, tb, v, RB, rd, rfl, hS, hB⟩; have HL2 : Aside0 (LS w2 w1.heap.size gw g tb (gv N 0 0 0 0 0) v) := ⟨⟨⟨_, hS.blk, rfl⟩, hS.pc⟩⟩; have HB2 := Aside0.mk hB; have c2 := HL2.out.cell; clear hS hB)
    | (go_at_call 20; (with_reducible refine at_cw w2 ?_); refine (S0.out w2 _ gw g tb v HL2.out HB2.out.size).mono ?_; rintro e w3 ⟨A3, p3, rfl, hL, hB⟩; have HL3 := Aside0.mk hL; have HB3 : Aside0 (Below w1.heap.size w1 w3) := ⟨HB2.out.trans hB⟩; have c3 := HL3.out.cell; clear hL hB c2)
    | (go_at_call 20; (with_reducible refine at_cw w3 ?_); refine (S2.out w3 _ gw g tb v HL3.out HB3.out.size).mono ?_; rintro e w4 ⟨A4, p4, rfl, hL, hB⟩; have HL4 := Aside0.mk hL; have HB4 : Aside0 (Below w1.heap.size w1 w4) := ⟨HB3.out.trans hB⟩; clear hL hB c3)
    | (go_at_call 12; refine (HAR.out w4).mono ?_; rintro e u0 ⟨rfl, rfl⟩)
    | (go_at_call 21; (with_reducible refine at_cw w4 ?_); refine (HNO.out w4).mono ?_; rintro e w5 ⟨rfl, hB⟩; have HL5 := Aside0.mk (HL4.out.below hB); have HB5 : Aside0 (Below w1.heap.size w1 w5) := ⟨below_tr HB4.out hB HB4.out.size⟩; clear hB)
    | ((with_reducible refine at_al 40 ?_); refine new_dg rfl rfl rfl rfl (.tmp 27) rfl (of_decide_eq_true rfl) rfl HN32.out ?_; rintro w6 gn N6; have HL6 := Aside0.mk (HL5.out.below N6.below); have HB6 : Aside0 (Below w1.heap.size w1 w6) := ⟨below_tr HB5.out N6.below HB5.out.size⟩; have HN6 := Aside0.mk N6.at_; clear N6)
    | fail)
  have HD6 : Aside0 (Below w6.heap.size w6 w6.drew) := ⟨Below.drew (Below.refl _ w6)⟩
  refine seq_startN [8] (.take 0 (.take 1 (.take 2 (.take 3 (.take 4 (.take 5 (.take 6 (.run 7 (.run 8 (.take 9 (.take 10 (.take 11 (.take 12 (.take 13 .done)))))))))))))) (by kernel_rfl) (by kernel_rfl) ?_
  refine seq_take (v := ?_) (a' := ?_) rfl rfl (by rfl) (fun w' hw' => ?_) ?_ ?_
  rotate_left 2
  · go_simp
    with_reducible rfl
  · simp only [Act.put, List.setIfInBounds_toArray, List.set_cons_zero, List.set_cons_succ, i64_w, i32_w]
    rfl
  refine seq_take (v := ?_) (a' := ?_) rfl rfl (by rfl) (fun w' hw' => ?_) ?_ ?_
  rotate_left 2
  · go_simp
    with_reducible rfl
  · simp only [Act.put, List.setIfInBounds_toArray, List.set_cons_zero, List.set_cons_succ, i64_w, i32_w]
    rfl
  refine seq_take (v := ?_) (a' := ?_) rfl rfl (by rfl) (fun w' hw' => ?_) ?_ ?_
  rotate_left 2
  · go_simp
    with_reducible rfl
  · simp only [Act.put, List.setIfInBounds_toArray, List.set_cons_zero, List.set_cons_succ, i64_w, i32_w]
    rfl
  refine seq_take (v := ?_) (a' := ?_) rfl rfl (by rfl) (fun w' hw' => ?_) ?_ ?_
  rotate_left 2
  · have c6 := (HL6.out.below (Later.trans HD6.out hw')).cell; go_simp
    with_reducible rfl
  · simp only [Act.put, List.setIfInBounds_toArray, List.set_cons_zero, List.set_cons_succ, i64_w, i32_w]
    rfl
  refine seq_take (v := ?_) (a' := ?_) rfl rfl (by rfl) (fun w' hw' => ?_) ?_ ?_
  rotate_left 2
  · go_simp
    with_reducible rfl
  · simp only [Act.put, List.setIfInBounds_toArray, List.set_cons_zero, List.set_cons_succ, i64_w, i32_w]
    rfl
  refine seq_take (v := _) (a' := ?_) rfl rfl (by rfl) (fun w' hw' => load_run rfl rfl (ld_row (Later.heap (Later.trans HD6.out hw') HN6.out) 40 _ Tryd.underlying40 rfl (by rw [List.size_toArray]; exact size_d N HN32.out))) ?_ ?_
  rotate_left
  · simp only [Act.put, List.setIfInBounds_toArray, List.set_cons_zero, List.set_cons_succ, i64_w, i32_w]
    rfl
  refine seq_take (v := _) (a' := ?_) rfl rfl (by rfl) (fun w' hw' => build_run 48 #[(0, .const (.int .i64 3)), (1, .tmp 33), (2, .tmp 34)] rfl (built_m3 3 k N HN32.out)) ?_ ?_
  rotate_left
  · simp only [Act.put, List.setIfInBounds_toArray, List.set_cons_zero, List.set_cons_succ, i64_w, i32_w]
    rfl
  refine seq_run ?_
  refine do_call rfl rfl (by rfl) rfl Tryd.func15 (by kernel_rfl) rfl #[.agg (Mc 3 k N (.string ⟨#[]⟩)).toArray] (by simp only [List.map_toArray, List.map_cons, List.map_nil]; rfl) ?_
  with_reducible refine (HRB1.out _).mono ?_
  rintro e w7 ⟨u7, rfl, hO7, hB7⟩
  refine ⟨_, ?_, rfl, ?_, fun _ => hB7, ?_⟩
  rotate_left
  · simp only [Act.put, List.setIfInBounds_toArray, List.set_cons_zero, List.set_cons_succ, i64_w, i32_w]
    rfl
  obtain ⟨A7, p7, rfl, hp7, hr7⟩ := OwB.reads hO7
  have HB67 : Aside0 (Below w6.heap.size w6 w7) := ⟨Later.trans HD6.out hB7⟩
  have HB7 : Aside0 (Below w1.heap.size w1 w7) := ⟨below_tr HB6.out HB67.out HB6.out.size⟩
  have HL7 := Aside0.mk (HL6.out.below HB67.out)
  have HN7 := Aside0.mk (Later.heap HB67.out HN6.out)
  have HRC := Aside0.mk (R1.out w7 _ gw g tb v A7 _ p7 HL7.out HB7.out.size hr7 hp7 (HK1.out.below (HB7.out)))
  clear hO7 hB7 hp7 hr7
  refine seq_run ?_
  refine do_call rfl rfl (by rfl) rfl Tryd.func16 (by kernel_rfl) rfl #[.pointer (some ⟨g, 0, none⟩), .slice A7 (cput (wbody 3 k N [])).length p7] (by simp only [List.map_toArray, List.map_cons, List.map_nil]; rfl) ?_
  with_reducible refine HRC.out.mono ?_
  rintro e w8 ⟨A8, p8, rfl, hL8, hB8, hF8⟩
  refine ⟨_, ?_, rfl, ?_, (fun h => absurd (by simp) h), ?_⟩
  rotate_left
  · simp only [Act.put, List.setIfInBounds_toArray, List.set_cons_zero, List.set_cons_succ]
    rfl
  have HL8 := Aside0.mk hL8
  have HB8 : Aside0 (Below w1.heap.size w1 w8) := ⟨HB7.out.trans hB8⟩
  have HN8 : Aside0 (w8.heap[gn]? = some (.cells (Nm N).toArray 40 (0, 0))) := ⟨(hF8.block gn (blk_lt HN7.out) (HL7.out.pc.out HN7.out (by decide) (by decide))).trans HN7.out⟩
  clear hL8 hB8 hF8 HRC
  refine seq_take (v := ?_) (a' := ?_) rfl rfl (by rfl) (fun w' hw' => ?_) ?_ ?_
  rotate_left 2
  · go_simp
    with_reducible rfl
  · simp only [Act.put, List.setIfInBounds_toArray, List.set_cons_zero, List.set_cons_succ, i64_w, i32_w]
    rfl
  refine seq_take (v := ?_) (a' := ?_) rfl rfl (by rfl) (fun w' hw' => ?_) ?_ ?_
  rotate_left 2
  · go_simp
    with_reducible rfl
  · simp only [Act.put, List.setIfInBounds_toArray, List.set_cons_zero, List.set_cons_succ, i64_w, i32_w]
    rfl
  refine seq_take (v := ?_) (a' := ?_) rfl rfl (by rfl) (fun w' hw' => ?_) ?_ ?_
  rotate_left 2
  · go_simp
    with_reducible rfl
  · simp only [Act.put, List.setIfInBounds_toArray, List.set_cons_zero, List.set_cons_succ, i64_w, i32_w]
    rfl
  refine seq_take (v := ?_) (a' := ?_) rfl rfl (by rfl) (fun w' hw' => ?_) ?_ ?_
  rotate_left 2
  · go_simp
    with_reducible rfl
  · simp only [Act.put, List.setIfInBounds_toArray, List.set_cons_zero, List.set_cons_succ, i64_w, i32_w]
    rfl
  refine seq_take (v := ?_) (a' := ?_) rfl rfl (by rfl) (fun w' hw' => ?_) ?_ ?_
  rotate_left 2
  · go_simp
    with_reducible rfl
  · simp only [Act.put, List.setIfInBounds_toArray, List.set_cons_zero, List.set_cons_succ, i64_w, i32_w]
    rfl
  refine seq_endN ?_
  have HD8 : Aside0 (Below w8.heap.size w8 w8.drew) := ⟨Below.drew (Below.refl _ w8)⟩
  go_upto_region 9 with fail
  refine seq_startN [] (.take 0 (.run 1 (.run 2 (.take 3 (.take 4 (.run 5 (.take 6 .done))))))) (by kernel_rfl) (by kernel_rfl) ?_
  refine seq_take (v := _) (a' := ?_) rfl rfl (by rfl) (fun w' hw' => load_run rfl rfl (ld_row (Later.heap (Later.trans HD8.out hw') HN8.out) 40 _ Tryd.underlying40 rfl (by rw [List.size_toArray]; exact size_d N HN32.out))) ?_ ?_
  rotate_left
  · simp only [Act.put, List.setIfInBounds_toArray, List.set_cons_zero, List.set_cons_succ, i64_w, i32_w]
    rfl
  refine seq_run ?_
  refine do_call rfl rfl (by rfl) rfl Tryd.func14 (by kernel_rfl) rfl #[.int .i64 2] (by simp only [List.map_toArray, List.map_cons, List.map_nil]; rfl) ?_
  with_reducible refine (HCH.out _).mono ?_
  rintro e w9 ⟨B9, d9, rfl, hO9, hB9⟩
  refine ⟨_, ?_, rfl, ?_, fun _ => hB9, ?_⟩
  rotate_left
  · simp only [Act.put, List.setIfInBounds_toArray, List.set_cons_zero, List.set_cons_succ, i64_w, i32_w]
    rfl
  have HO9 := Aside0.mk hO9.out
  have HB9 : Aside0 (Below w8.heap.size w8 w9) := ⟨Later.trans HD8.out hB9⟩
  clear hO9 hB9
  refine seq_run ?_
  refine do_call rfl rfl (by rfl) rfl Tryd.func13 (by kernel_rfl) rfl #[.slice B9 X.length d9] (by simp only [List.map_toArray, List.map_cons, List.map_nil]; rfl) ?_
  with_reducible refine (HSE.out w9 B9 d9 (Kd.R_lower HO9.out (Nat.le_trans HB8.out.size HD8.out.size))).mono ?_
  rintro e w10 ⟨u10, rfl, hO10, hB10⟩
  refine ⟨_, ?_, rfl, ?_, fun _ => hB10, ?_⟩
  rotate_left
  · simp only [Act.put, List.setIfInBounds_toArray, List.set_cons_zero, List.set_cons_succ, i64_w, i32_w]
    rfl
  obtain ⟨A10, p10, rfl, hp10, hr10⟩ := OwB.reads hO10
  have HR10 := Aside0.mk hr10
  have HB10 : Aside0 (Below w8.heap.size w8 w10) := ⟨Later.trans HB9.out hB10⟩
  clear hO10 hB10 hp10 hr10
  refine seq_take (v := _) (a' := ?_) rfl rfl (by rfl) (fun w' hw' => conv_run 37 9 (.tmp 42) rfl rfl (conv_str (Kd.C_below HR10.out hw') _)) ?_ ?_
  rotate_left
  · simp only [Act.put, List.setIfInBounds_toArray, List.set_cons_zero, List.set_cons_succ, i64_w, i32_w]
    rfl
  refine seq_take (v := _) (a' := ?_) rfl rfl (by rfl) (fun w' hw' => build_run 48 #[(0, .const (.int .i64 2)), (1, .const (.int .i64 9)), (2, .tmp 40), (3, .tmp 43)] rfl (built_m4 2 9 N (strOfNums F) HN32.out)) ?_ ?_
  rotate_left
  · simp only [Act.put, List.setIfInBounds_toArray, List.set_cons_zero, List.set_cons_succ, i64_w, i32_w]
    rfl
  refine seq_run ?_
  refine do_call rfl rfl (by rfl) rfl Tryd.func15 (by kernel_rfl) rfl #[.agg (Mc 2 9 N (.string (strOfNums F))).toArray] (by simp only [List.map_toArray, List.map_cons, List.map_nil]; rfl) ?_
  with_reducible refine (HRB2.out _).mono ?_
  rintro e w11 ⟨u11, rfl, hO11, hB11⟩
  refine ⟨_, ?_, rfl, ?_, fun _ => hB11, ?_⟩
  rotate_left
  · simp only [Act.put, List.setIfInBounds_toArray, List.set_cons_zero, List.set_cons_succ, i64_w, i32_w]
    rfl
  obtain ⟨A11, p11, rfl, hp11, hr11⟩ := OwB.reads hO11
  have HB811 : Aside0 (Below w8.heap.size w8 w11) := ⟨Later.trans HB10.out hB11⟩
  have HB11 : Aside0 (Below w1.heap.size w1 w11) := ⟨below_tr HB8.out HB811.out HB8.out.size⟩
  have HL11 := Aside0.mk (HL8.out.below HB811.out)
  have HRC := Aside0.mk (R2.out w11 _ gw g tb v A11 _ p11 HL11.out HB11.out.size hr11 hp11 (HK1.out.below HB11.out))
  have c11 := HL11.out.cell
  clear hO11 hB11 hp11 hr11
  refine seq_take (v := ?_) (a' := ?_) rfl rfl (by rfl) (fun w' hw' => ?_) ?_ ?_
  rotate_left 2
  · go_simp
    with_reducible rfl
  · simp only [Act.put, List.setIfInBounds_toArray, List.set_cons_zero, List.set_cons_succ, i64_w, i32_w]
    rfl
  refine seq_endN ?_
  rcases HCASE.out with ⟨hk2, hc6, hb6⟩ | ⟨hk2, hc6, hb6⟩
  · subst hk2
    subst hc6
    subst hb6
    clear HCASE
    go_wp2_with (first
      | (go_at_call 16; (with_reducible refine at_cw w11 ?_); refine HRC.out.mono ?_; rintro e w12 ⟨A12, p12, rfl, hL, hB⟩; have HL12 := Aside0.mk hL; have HB12 : Aside0 (Below w1.heap.size w1 w12) := ⟨HB11.out.trans hB⟩; have c12 := HL12.out.cell; clear hL hB c11)
      | (go_at_call 22; refine (HER4.out w12 _ gw g tb v HL12.out).mono ?_; rintro e u0 ⟨rfl, rfl⟩)
      | (go_at_call 20; (with_reducible refine at_cw w12 ?_); refine (S9.out w12 _ gw g tb v HL12.out HB12.out.size).mono ?_; rintro e w13 ⟨A13, p13, rfl, hL, hB⟩; have HL13 := Aside0.mk hL; have HB13 : Aside0 (Below w1.heap.size w1 w13) := ⟨HB12.out.trans hB⟩; have c13 := HL13.out.cell; clear hL hB c12)
      | (go_at_call 10; (with_reducible refine at_cw w13 ?_); refine (HLF.out w13 _ gw g tb v HL13.out).mono ?_; rintro e w14 ⟨A14, p14, rfl, hB⟩; have HB14 : Aside0 (Below w1.heap.size w1 w14) := ⟨below_tr HB13.out hB HB13.out.size⟩; clear hB)
      | (go_at_call 19; (with_reducible refine at_cw w14 ?_); refine (HLV.out w14).mono ?_; rintro e w15 ⟨rfl, hB⟩; have HB15 : Aside0 (Below w1.heap.size w1 w15) := ⟨below_tr HB14.out hB HB14.out.size⟩; clear hB)
      | fail)
    go_ret
    exact ⟨rfl, HB1.out.trans (HB15.out.mono HB1.out.size)⟩
  · subst hc6
    subst hb6
    have hkb : (k == 2) = false := by simp [hk2]
    clear HCASE hk2
    go_wp2_with (first
      | (go_at_call 16; (with_reducible refine at_cw w11 ?_); refine HRC.out.mono ?_; rintro e w12 ⟨A12, p12, rfl, hL, hB⟩; have HL12 := Aside0.mk hL; have HB12 : Aside0 (Below w1.heap.size w1 w12) := ⟨HB11.out.trans hB⟩; have c12 := HL12.out.cell; clear hL hB c11)
      | (go_at_call 22; refine (HER0.out w12 _ gw g tb v HL12.out).mono ?_; rintro e u0 ⟨rfl, rfl⟩)
      | (go_at_call 23; (with_reducible refine at_cw w12 ?_); refine (HDN.out w12 _ gw g tb v HL12.out).mono ?_; rintro e w14 ⟨rfl, hB⟩; have HB14 : Aside0 (Below w1.heap.size w1 w14) := ⟨below_tr HB12.out hB HB12.out.size⟩; clear hB)
      | (go_at_call 19; (with_reducible refine at_cw w14 ?_); refine (HLV.out w14).mono ?_; rintro e w15 ⟨rfl, hB⟩; have HB15 : Aside0 (Below w1.heap.size w1 w15) := ⟨below_tr HB14.out hB HB14.out.size⟩; clear hB)
      | fail)
    go_ret
    exact ⟨rfl, HB1.out.trans (HB15.out.mono HB1.out.size)⟩
end Go.Proofs.YtnkkjmbpopodlaaDoor
