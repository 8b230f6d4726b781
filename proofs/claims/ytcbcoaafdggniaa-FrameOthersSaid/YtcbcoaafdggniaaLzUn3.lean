/- Contract: lz.Unpack. Conditions: its own. -/
import Derived.Test.YtcbcoaafdggniaaLzUn2
import Derived.Test.YtcbcoaafdggniaaLzMade
namespace Go.Proofs.Ytcbcoaafdggniaa
open Go.RowKit Go.Shelf Go.Proofs.YtcbcoaafdggniaaW.PrintWords Go.Proofs.YtcbcoaafdggniaaW.PrintMore
set_option linter.unusedVariables false
set_option linter.unusedSimpArgs false
theorem tk_bounds {q : List Int} (hb : Bytes q) {s n d : Nat} (h : tk q = some (s, n, d)) : n ≤ 131 ∧ (d = 0 → s = n + 1) ∧ d ≤ 65536 ∧ 1 ≤ n := by
  have h0 := hb.at_ 0
  have h1 := hb.at_ 1
  have h2 := hb.at_ 2
  unfold tk at h
  split at h
  · split at h
    · simp only [Option.some.injEq, Prod.mk.injEq] at h
      omega
    · cases h
  · split at h
    · cases h
    · simp only [Option.some.injEq, Prod.mk.injEq] at h
      omega
def slN (v : Value) : Nat := match v with
  | .slice _ n _ => n
  | _ => 0
structure UnI (w : World) (N : Nat) (most : Int) (p : List Int) (q out : List Int) (A : Option Addr) (c : Nat) (v : Value) (wr : World) : Prop where
  rd : RdB w A q.length q
  qb : Bytes q
  le : q.length ≤ c
  ln : q.length ≤ N
  lo : out.length + 131 * q.length ≤ 131 * N
  eq : unpR most q out = unp most p
  md : MadeI w v out wr
theorem TokPost.none_ {q : List Int} {e : Ending} (h : TokPost q e) (ht : tk q = none) : ∃ (s n d : Nat), e = .returned (.tuple #[.int .i64 s, .int .i64 n, .int .i64 d, .bool false]) := by
  obtain ⟨s, n, d, ok, he, hk⟩ := h
  rcases hk with ⟨hk, _⟩ | ⟨_, rfl⟩
  · rw [ht] at hk; cases hk
  · exact ⟨s, n, d, he⟩
theorem TokPost.some_ {q : List Int} {e : Ending} {s n d : Nat} (h : TokPost q e) (ht : tk q = some (s, n, d)) : e = .returned (.tuple #[.int .i64 s, .int .i64 n, .int .i64 d, .bool true]) := by
  obtain ⟨s', n', d', ok, he, hk⟩ := h
  rcases hk with ⟨hk, rfl⟩ | ⟨hk, _⟩
  · rw [ht] at hk
    simp only [Option.some.injEq, Prod.mk.injEq] at hk
    obtain ⟨rfl, rfl, rfl⟩ := hk
    exact he
  · rw [ht] at hk; cases hk
structure UnPost (w : World) (r : UR) (e : Ending) (w' : World) : Prop where
  ex : ∃ v, e = .returned (.tuple #[v, .int .i64 r.E]) ∧ OwB w' w.heap.size v r.B ∧ Bytes r.B
  below : Below w.heap.size w w'
set_option maxRecDepth 20000 in
set_option maxHeartbeats 1600000 in
theorem unpack_calls (A : Option Addr) (N c : Nat) (p : List Int) (most : Int) (w : World) (h : RdB w A N p) (hb : Bytes p) (hc : N ≤ c) (hN : N ≤ 549755813888) :
    Calls Try.prog 27 #[.slice A N c, .int .i64 most] w fun e w' => UnPost w (unp most p) e w' := by
  obtain rfl : p.length = N := h.1
  have HX := Aside0.mk h
  clear h
  have hw64 : ∀ (a b : Nat), a + b ≤ 1000000000000000 → wrap64 ((a : Int) + (b : Int)) = (a : Int) + (b : Int) := fun a b h => by unfold wrap64; omega
  have HW := Aside0.mk hw64
  clear hw64
  go_enter Try.func27, Try.ntmps27
  go_wp2
  go_loopw [0, 6, 7, 8, 9, 10, 11] (fun x v _ _ _ _ _ wr => ∃ (q out : List Int) (A' : Option Addr) (c' : Nat), x = .slice A' q.length c' ∧ UnI w p.length most p q out A' c' v wr) (fun x _ _ _ _ _ _ _ => slN x)
  case atStart => exact ⟨p, [], A, c, rfl, HX.out, hb, hc, Nat.le_refl _, by simp, rfl, Kd.R_nil _ _ _ _ _, Bytes.nil, Below.refl _ _⟩
  case round =>
    obtain ⟨q, out, A', c', rfl, hI⟩ := hrel
    have HI := Aside0.mk hI
    have hout := hI.lo
    have hln := hI.ln
    obtain ⟨B, d0, rfl, hd0, hr0⟩ := hI.md.own.reads
    have HR := Aside0.mk hr0
    clear hI hr0
    by_cases hq : 0 < q.length
    · have hqI : (0 : Int) < (q.length : Int) := by omega
      have hqn : q ≠ [] := List.length_pos_iff.1 hq
      have HM := Aside0.mk HI.out.md
      rcases ht : tk q with _ | ⟨s, n, d⟩
      · have HT := Aside0.mk ht
        clear ht
        go_wp2_with (first
          | (go_at_call 37; (with_reducible refine at_cw wr ?_); refine (token_calls A' q.length c' q wr (Kd.C_below HI.out.rd HM.out.below) HI.out.qb hq (by omega)).mono ?_; rintro e w5 ⟨htk, hB⟩; obtain ⟨s, n, d, rfl⟩ := htk.none_ HT.out; have L5 : Aside0 (Later wr w5) := ⟨hB⟩; clear hB htk))
        (try simp only [Exit.inBlock, Exit.then])
        refine bodyPost_ret (results_tmp2 rfl _ _ _) rfl ?_
        have he := HI.out.eq
        rw [unpR_none hqn HT.out] at he
        rw [← he]
        exact ⟨⟨_, rfl, Kd.R_nil _ _ _ _ _, Bytes.nil⟩, Later.trans HM.out.below L5.out |> fun (h : Later w w5) => h⟩
      · obtain ⟨hn1, hs0, hd6, hn0⟩ := tk_bounds HI.out.qb ht
        obtain ⟨hs2, hsq⟩ := tk_size ht
        have HT := Aside0.mk ht
        clear ht
        have hwn := HW.out out.length n (by omega)
        by_cases hfar : out.length < d
        · have hfI : (out.length : Int) < (d : Int) := by omega
          go_wp2_with (first
            | (go_at_call 37; (with_reducible refine at_cw wr ?_); refine (token_calls A' q.length c' q wr (Kd.C_below HI.out.rd HM.out.below) HI.out.qb hq (by omega)).mono ?_; rintro e w5 ⟨htk, hB⟩; obtain rfl := htk.some_ HT.out; have L5 : Aside0 (Later wr w5) := ⟨hB⟩; clear hB htk))
          (try simp only [Exit.inBlock, Exit.then])
          refine bodyPost_ret (results_tmp2 rfl _ _ _) rfl ?_
          have he := HI.out.eq
          rw [unpR_far hqn HT.out hfar] at he
          rw [← he]
          exact ⟨⟨_, rfl, Kd.R_nil _ _ _ _ _, Bytes.nil⟩, Later.trans HM.out.below L5.out |> fun (h : Later w w5) => h⟩
        · have hfI : ¬ (out.length : Int) < (d : Int) := by omega
          by_cases hrg : most < ((out.length + n : Nat) : Int)
          · have hrI : most < (out.length : Int) + (n : Int) := by omega
            go_wp2_with (first
              | (go_at_call 37; (with_reducible refine at_cw wr ?_); refine (token_calls A' q.length c' q wr (Kd.C_below HI.out.rd HM.out.below) HI.out.qb hq (by omega)).mono ?_; rintro e w5 ⟨htk, hB⟩; obtain rfl := htk.some_ HT.out; have L5 : Aside0 (Later wr w5) := ⟨hB⟩; clear hB htk))
            (try simp only [Exit.inBlock, Exit.then])
            refine bodyPost_ret (results_tmp2 rfl _ _ _) rfl ?_
            have he := HI.out.eq
            rw [unpR_range hqn HT.out hfar hrg] at he
            rw [← he]
            exact ⟨⟨_, rfl, Kd.R_nil _ _ _ _ _, Bytes.nil⟩, Later.trans HM.out.below L5.out |> fun (h : Later w w5) => h⟩
          · have hrI : ¬ most < (out.length : Int) + (n : Int) := by omega
            obtain ⟨z, hz⟩ : ∃ z : Int, z = (s : Int) := ⟨_, rfl⟩
            obtain ⟨B2, hcut, hr2⟩ : ∃ B2, (∀ W : World, (Instr.slice 22 (.slice A' q.length c') (some (.int .i64 z)) none none).run Try.prog W = .ok (.slice B2 (q.length - s) (c' - s)) W) ∧ RdB w B2 (q.length - s) (q.drop s) := by
              have := cutFrom HI.out.rd HI.out.le z (by omega) (by omega)
              rw [show z.toNat = s by omega] at this
              exact ⟨_, this⟩
            have HR2 := Aside0.mk hr2
            have HST : Aside0 (unpR most (q.drop s) (growU q out (s, n, d)) = unp most p) := ⟨by rw [← unpR_step hqn HT.out hfar hrg]; exact HI.out.eq⟩
            have hdl : (q.drop s).length = q.length - s := List.length_drop
            clear hr2
            by_cases hd : d = 0
            · subst hd
              obtain rfl : s = n + 1 := hs0 rfl
              obtain rfl : z = (n : Int) + 1 := by omega
              clear hz
              obtain ⟨B3, c3, hmid, hr3⟩ : ∃ B3 c3, (∀ W : World, (Instr.slice 22 (.slice A' q.length c') (some (.int .i64 1)) (some (.int .i64 ((n : Int) + 1))) none).run Try.prog W = .ok (.slice B3 n c3) W) ∧ RdB w B3 n (midL q 1 (n + 1)) := by
                have := cutMid HI.out.rd HI.out.le 1 ((n : Int) + 1) (by omega) (by omega) (by omega)
                rw [show ((n : Int) + 1).toNat = n + 1 by omega] at this
                exact ⟨_, _, this⟩
              have HR3 := Aside0.mk hr3
              clear hr3
              go_wp2_with (first
                | (go_at_call 37; (with_reducible refine at_cw wr ?_); refine (token_calls A' q.length c' q wr (Kd.C_below HI.out.rd HM.out.below) HI.out.qb hq (by omega)).mono ?_; rintro e w5 ⟨htk, hB⟩; obtain rfl := htk.some_ HT.out; have L5 : Aside0 (Later wr w5) := ⟨hB⟩; clear hB htk)
                | (at_builtin; refine appBs (w0 := w) w.heap.size rfl (.tmp 38) (.tmp 41) rfl _ out (midL q 1 (n + 1)) B3 n c3 rfl rfl (HM.out.own.below L5.out) (Kd.C_below HR3.out (Later.trans HM.out.below L5.out)) (Later.trans HM.out.below L5.out) (Later.size (Later.trans HM.out.below L5.out)) (by omega) ?_; intro v6 w6 hO6 hB6 _ _))
              have M6 : Aside0 (MadeI w v6 (out ++ midL q 1 (n + 1)) w6) := ⟨⟨hO6, HM.out.by_.append (HI.out.qb.mid 1 (n + 1)), hB6⟩⟩
              have hml : (midL q 1 (n + 1)).length = n := by rw [midL_len (by omega)]; omega
              have hgr : growU q out (n + 1, n, 0) = out ++ midL q 1 (n + 1) := by unfold growU; rw [if_pos rfl]
              have hll : (out ++ midL q 1 (n + 1)).length + 131 * (q.length - (n + 1)) ≤ 131 * p.length := by rw [List.length_append, hml]; omega
              have I2 : Aside0 (UnI w p.length most p (q.drop (n + 1)) (growU q out (n + 1, n, 0)) B2 (c' - (n + 1)) v6 w6) := ⟨⟨by rw [hdl]; exact HR2.out, HI.out.qb.drop _, by have := HI.out.le; omega, by omega, by rw [hdl, hgr]; exact hll, HST.out, by rw [hgr]; exact M6.out⟩⟩
              clear hO6 hB6 hml hgr hll
              obtain ⟨wx, hwx⟩ : ∃ wx, wx = w6 := ⟨_, rfl⟩
              go_loopw [6, 11] (fun v k wq => v6 = v ∧ k = .int .i64 0 ∧ w6 = wq) (fun _ _ _ => 0)
              case atStart => exact ⟨rfl, rfl, rfl⟩
              case round =>
                obtain ⟨rfl, rfl, rfl⟩ := hrel
                go_wp2
                go_roundw
                case rel => exact ⟨_, _, _, _, by rw [hdl], I2.out⟩
                case measure => simp only [slN]; omega
            · have hd0I : ¬ (d : Int) = 0 := by omega
              have hdb : ((d : Int) == 0) = false := by rw [beq_eq_false_iff_ne]; omega
              have hdI : (0 : Int) < (d : Int) := by omega
              subst hz
              have M5 : Aside0 (∀ w5, Later wr w5 → MadeI w (.slice B out.length d0) out w5) := ⟨fun w5 h => ⟨HM.out.own.below h, HM.out.by_, Later.trans HM.out.below h |> fun (h : Later w w5) => h⟩⟩
              have hgr : growU q out (s, n, d) = rep d n out := by unfold growU; rw [if_neg (by show ¬ d = 0; exact hd)]
              have I2 : Aside0 (∀ v6 w6, MadeI w v6 (rep d n out) w6 → UnI w p.length most p (q.drop s) (growU q out (s, n, d)) B2 (c' - s) v6 w6) := ⟨fun v6 w6 h => ⟨by rw [hdl]; exact HR2.out, HI.out.qb.drop _, by have := HI.out.le; omega, by omega, by rw [hdl, hgr, rep_len]; omega, HST.out, by rw [hgr]; exact h⟩⟩
              clear hgr hs0
              go_wp2_with (first
                | (go_at_call 37; (with_reducible refine at_cw wr ?_); refine (token_calls A' q.length c' q wr (Kd.C_below HI.out.rd HM.out.below) HI.out.qb hq (by omega)).mono ?_; rintro e w5 ⟨htk, hB⟩; obtain rfl := htk.some_ HT.out; have L5 : Aside0 (Later wr w5) := ⟨hB⟩; clear hB htk))
              have M6 := Aside0.mk (M5.out w5 L5.out)
              clear M5 L5 HR2 HST HM HR HI
              go_loopw [6, 11] (fun v k wq => ∃ (t : Nat) (ys : List Int), t ≤ n ∧ k = .int .i64 t ∧ ys.length = out.length + t ∧ rep d (n - t) ys = rep d n out ∧ MadeI w v ys wq) (fun _ k _ => n - (intOf k).toNat)
              case atStart => exact ⟨0, out, by omega, rfl, rfl, rfl, M6.out⟩
              case round =>
                obtain ⟨t, ys, ht, rfl, hys, hrp, hMy⟩ := hrel
                obtain ⟨B4, d4, rfl, hd4, hr4⟩ := hMy.own.reads
                have HMy := Aside0.mk hMy
                have HR4 := Aside0.mk hr4
                have HRP := Aside0.mk hrp
                have HYS := Aside0.mk hys
                clear hMy hr4 hrp
                by_cases htm : t < n
                · have htI : (t : Int) < (n : Int) := by omega
                  obtain ⟨x, hx⟩ : ∃ x : Nat, x + d = ys.length := ⟨ys.length - d, by omega⟩
                  have hxI : (ys.length : Int) - (d : Int) = (x : Int) := by omega
                  have hxl : x < ys.length := by omega
                  have hyl : ys.length ≤ 100000000000000 := by omega
                  obtain ⟨ay, ey⟩ : ∃ ad, B4 = some ad := by obtain ⟨ad, e, _⟩ := Kd.at_int HR4.out 0 (by omega) (by omega); exact ⟨ad, e⟩
                  subst ey
                  have hcy := rdB_at HR4.out x hxl
                  have HRS : Aside0 (rep d (n - (t + 1)) (ys ++ [rd ys (x : Int)]) = rep d n out) := ⟨by
                    rw [← HRP.out, show n - t = (n - (t + 1)) + 1 by omega, rep, show ys.length - d = x by omega]⟩
                  have hxy := HMy.out.by_.at_ (x : Int)
                  clear hys hout hln hdl hsq hcut hwn
                  generalize rd ys (x : Int) = y at *
                  go_wp2_with (at_builtin; refine appB (w0 := w) w.heap.size rfl (.tmp 52) (.tmp 60) rfl _ _ _ rfl rfl HMy.out.own HMy.out.below HMy.out.below.size (by omega) ?_; intro v5 w5 hO5 hB5 _ _)
                  go_roundw
                  case rel => exact ⟨t + 1, _, by omega, by go_num, by rw [List.length_append, List.length_singleton, HYS.out]; omega, HRS.out, ⟨hO5, HMy.out.by_.append (Bytes.one hxy.1 hxy.2), hB5⟩⟩
                  case measure => simp [intOf]; omega
                · have htI : ¬ (t : Int) < (n : Int) := by omega
                  obtain rfl : t = n := by omega
                  clear hys
                  go_wp2
                  go_roundw
                  case rel =>
                    have hrp := HRP.out
                    rw [Nat.sub_self, rep] at hrp
                    subst hrp
                    exact ⟨_, _, _, _, by rw [hdl], I2.out _ _ HMy.out⟩
                  case measure => simp only [slN]; omega
    · have hqI : ¬ (0 : Int) < (q.length : Int) := by omega
      obtain rfl : q = [] := List.eq_nil_of_length_eq_zero (by omega)
      go_wp2
      (try simp only [Exit.inBlock, Exit.then])
      refine bodyPost_ret (results_tmp2 rfl _ _ _) rfl ?_
      have he := HI.out.eq
      rw [unpR_nil] at he
      rw [← he]
      exact ⟨⟨_, rfl, HI.out.md.own, HI.out.md.by_⟩, HI.out.md.below⟩
end Go.Proofs.Ytcbcoaafdggniaa
