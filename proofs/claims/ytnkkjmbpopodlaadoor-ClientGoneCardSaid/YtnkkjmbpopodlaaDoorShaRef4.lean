/- Contract: lighterageref02.Sum. Conditions: its own. -/
import Derived.Test.YtnkkjmbpopodlaaDoorShaRef2
import Derived.Test.YtnkkjmbpopodlaaDoorG3
namespace Go.Proofs.YtnkkjmbpopodlaaDoor
open Go.RowKit Go.Proofs.YtnkkjmbpopodlaaDoorW.PrintWords Go.Proofs.YtnkkjmbpopodlaaDoorW.PrintMore
set_option linter.unusedVariables false
set_option linter.unusedSimpArgs false
def hs (all : List Int) : Nat → List Int
  | 0 => IV
  | j + 1 => comp (hs all j) ((all.drop (64 * j)).take 64)
theorem hs_len (all : List Int) : ∀ j, (hs all j).length = 8
  | 0 => rfl
  | j + 1 => comp_len (hs_len all j)
theorem IV_ws : Ws IV := by
  have : (IV.all fun x => decide (0 ≤ x ∧ x < 4294967296)) = true := by decide +kernel
  intro x hx
  exact of_decide_eq_true (List.all_eq_true.1 this x hx)
theorem hs_ws (all : List Int) : ∀ j, Ws (hs all j)
  | 0 => IV_ws
  | j + 1 => comp_ws (hs_ws all j)
def dgt (h : List Int) : List Int := (List.range 32).map fun i => rd h ((i / 4 : Nat) : Int) / 256 ^ (3 - i % 4) % 256
theorem dgt_len (h : List Int) : (dgt h).length = 32 := by simp [dgt]
theorem rd_dgt (h : List Int) (k : Nat) (hk : k < 32) : rd (dgt h) k = rd h ((k / 4 : Nat) : Int) / 256 ^ (3 - k % 4) % 256 := by
  have h0 : (dgt h)[k]? = some (rd h ((k / 4 : Nat) : Int) / 256 ^ (3 - k % 4) % 256) := by
    unfold dgt
    rw [List.getElem?_map, List.getElem?_range hk]
    rfl
  show (dgt h).getD ((k : Int).toNat) 0 = _
  rw [Int.toNat_natCast, List.getD_eq_getElem?_getD, h0]
  rfl
theorem dgt_bytes (h : List Int) : Bytes (dgt h) := by
  intro x hx
  obtain ⟨i, _, rfl⟩ := List.mem_map.1 hx
  exact ⟨Int.emod_nonneg _ (by omega), Int.emod_lt_of_pos _ (by omega)⟩
/-- The digest. -/
def shaL (xs : List Int) : List Int := dgt (hs (whole xs) ((whole xs).length / 64))
theorem shaL_len (xs : List Int) : (shaL xs).length = 32 := dgt_len _
theorem shaL_bytes (xs : List Int) : Bytes (shaL xs) := dgt_bytes _
theorem whole_bytes {xs : List Int} (h : Bytes xs) : Bytes (whole xs) := h.append (tailB_bytes _)
theorem cut64 {w : World} {g n c : Nat} {xs : List Int} (h : RdB w (some ⟨g, 0, none⟩) n xs) (hc : n ≤ c) (i : Nat) (hi : i + 64 ≤ n) :
    (∀ W : World, (Instr.slice 37 (.slice (some ⟨g, 0, none⟩) n c) (some (.int .i64 i)) (some (.int .i64 ((i : Int) + 64))) none).run Tryd.prog W = .ok (.slice (some ⟨g, i, none⟩) 64 (c - i)) W) ∧ RdB w (some ⟨g, i, none⟩) 64 ((xs.drop i).take 64) := by
  obtain ⟨i0, hinf, _, hsz, _⟩ := info_parts infoB
  have ea : (Addr.add ⟨g, 0, none⟩ i) = ⟨g, i, none⟩ := by unfold Addr.add; split <;> simp_all
  constructor
  · intro W
    have hel : Tryd.prog.elem 37 = 5 := by simp [Program.elem, Tryd.underlying37]
    have hu : Tryd.prog.underlying 37 = some (.slice (Tryd.prog.elem 37)) := by rw [hel]; exact Tryd.underlying37
    rw [run_slice_lh W 37 (some ⟨g, 0, none⟩) n c hu .i64 .i64 i (i + 64) (by omega) (by omega) (by omega), hel]
    have hne : ¬ c = i := by omega
    have e2 : ((i : Int) + 64).toNat = i + 64 := by omega
    simp [sizeOf, typeInfo, hinf, hsz, sliced, Result.andThen, hne, e2, ea]
  · have h1 := (Kd.reads_of_C (d := (0 : Int)) h).drop_ i (by omega) hc
    rw [if_neg (by omega)] at h1
    have h2 : RdB w ((some (⟨g, 0, none⟩ : Addr)).map (·.add i)) 64 ((xs.drop i).take 64) := Kd.C_of_reads (h1.take_ 64 (by omega))
    rw [show (some (⟨g, 0, none⟩ : Addr)).map (·.add i) = some ⟨g, i, none⟩ from by rw [Option.map_some, ea]] at h2
    exact h2
set_option maxHeartbeats 3200000 in
set_option maxRecDepth 20000 in
theorem rsum_calls (A : Option Addr) (n c : Nat) (xs : List Int) (w : World) (h : RdB w A n xs) (hb : Bytes xs) (hn : n ≤ 1099511627776) :
    Calls Tryd.prog 18 #[.slice A n c] w fun e w' => e = .returned (.agg (Nm (shaL xs)).toArray) ∧ Below w.heap.size w w' := by
  have HX := Aside0.mk h
  have HXB := Aside0.mk hb
  obtain rfl : xs.length = n := h.1
  clear h hb
  have Q0 : Aside0 (∀ o, Bag w (w.alloc (.cells o 40)) [(w.heap.size, .cells o 40 (0, 0))]) := ⟨fun o => (Bag.nil w).box o 40⟩
  have HIV : Aside0 (∀ o, RdW ((w.alloc (.cells o 40)).alloc (.cells (IV.map (Value.int .u32)).toArray 93)) (some ⟨w.heap.size + 1, 0, none⟩) 8 IV) := ⟨fun o => by
    have := (OwW.parts (own_litW (w.alloc (.cells o 40)) 0 IV _ 8 rfl rfl (by simp) (by decide))).2
    rwa [show (w.alloc (.cells o 40)).heap.size = w.heap.size + 1 by simp] at this⟩
  go_enter Tryd.func18, Tryd.ntmps18
  go_wp2_with (go_at_call 45; refine (whole_calls A xs.length c xs _ (Kd.C_below HX.out ((Q0.out _).call (Below.alloc (Below.refl _ _) (Nat.le_refl _) _)).below) hn).mono ?_; rintro e w1 ⟨v1, rfl, hO1, hB1⟩)
  have Q1 := ((Q0.out _).call (Below.alloc (Below.refl _ _) (Nat.le_refl _) (.cells (IV.map (Value.int .u32)).toArray 93))).call hB1
  have HI1 := Aside0.mk (Kd.C_below (HIV.out _) hB1)
  obtain ⟨al, HAL, hO2⟩ : ∃ al, Aside0 (al = whole xs) ∧ OwB w1 _ v1 al := ⟨_, ⟨rfl⟩, hO1⟩
  have hll : al.length ≤ 1099511627848 ∧ 64 ≤ al.length ∧ al.length % 64 = 0 := by
    have h1 := whole_len xs
    have h2 := zc_lt xs.length
    have h3 := whole_mod xs
    rw [HAL.out]
    omega
  obtain ⟨J, hJ⟩ : ∃ J, al.length = 64 * J := ⟨al.length / 64, by omega⟩
  have HSH : Aside0 (shaL xs = dgt (hs al J)) := ⟨by rw [shaL, ← HAL.out, hJ, Nat.mul_div_cancel_left _ (by omega)]⟩
  have HALB : Aside0 (Bytes al) := ⟨by rw [HAL.out]; exact whole_bytes HXB.out⟩
  obtain ⟨ga, ca, hv1, _, _⟩ := OwB.place hO2 (by omega)
  have HRA := Aside0.mk (OwB.parts (hv1 ▸ hO2))
  clear hO1 hO2 hB1
  subst v1
  have HQ1 := Aside0.mk Q1
  clear Q1
  go_loopw [3, 5] (fun v i wr => ∃ (j p gh ch' : Nat), j ≤ J ∧ Aside0 (p = 64 * j) ∧ i = .int .i64 p ∧ v = .slice (some ⟨gh, 0, none⟩) 8 ch' ∧ 8 ≤ ch' ∧ RdW wr (some ⟨gh, 0, none⟩) 8 (hs al j) ∧ Below w1.heap.size w1 wr) (fun _ i _ => 64 * J - (intOf i).toNat)
  case atStart => exact ⟨0, 0, _, _, by omega, ⟨rfl⟩, rfl, rfl, by omega, HI1.out, Below.refl _ _⟩
  case round =>
    obtain ⟨j, p, gh, ch', hj, hp, rfl, rfl, hch, hR, hBr⟩ := hrel
    have HR := Aside0.mk hR
    have HBr := Aside0.mk hBr
    have hpp := hp.out
    clear hR hBr
    by_cases hlt : j < J
    · obtain ⟨hs1, hR1⟩ := cut64 (Kd.C_below HRA.out.2 HBr.out) HRA.out.1 p (by omega)
      have HR1 := Aside0.mk hR1
      have hltp : (p : Int) < (al.length : Int) := by omega
      have e64 : IntKind.i64.wrap ((p : Int) + 64) = (p : Int) + 64 := by rw [IntKind.wrap_i64]; omega
      have HS : Aside0 (hs al (j + 1) = comp (hs al j) ((al.drop p).take 64)) := ⟨by rw [hpp]; rfl⟩
      have HWS := Aside0.mk (hs_ws al j)
      clear hR1
      generalize hs al j = hh at *
      clear hJ hll hpp
      go_wp2_with (go_at_call 46; refine (block_calls gh ch' hh ga p (ca - p) ((al.drop p).take 64) wr HR.out hch HWS.out HR1.out ((HALB.out.drop _).take _)).mono ?_; rintro e w2 ⟨g2, c2, rfl, hO2, hB2⟩)
      go_roundw
      case rel => exact ⟨j + 1, p + 64, g2, c2, by omega, ⟨by have := hp.out; omega⟩, by go_num, rfl, (OwW.parts hO2).1, by rw [HS.out]; exact (OwW.parts hO2).2, below_tr HBr.out hB2 HBr.out.size⟩
      case measure => have := hp.out; simp [intOf]; omega
    · obtain rfl : j = J := by omega
      have hpl : ¬ (p : Int) < (al.length : Int) := by omega
      have HWS := Aside0.mk (hs_ws al j)
      generalize hs al j = hh at *
      have hge : al.length ≤ p := by omega
      have hge2 : (al.length : Int) ≤ (p : Int) := by omega
      clear hj hJ hll hpp hlt
      have HQ2 := Aside0.mk ((HQ1.out.call HBr.out).box (Nm (List.replicate 32 0)).toArray 40)
      have HR2 := Aside0.mk (Kd.C_alloc HR.out (.cells (Nm (List.replicate 32 0)).toArray 40))
      go_wp2
      obtain ⟨o0, ho0, HQ3⟩ : ∃ o, o.size = 32 ∧ Aside0 (Bag w (wr.alloc (.cells (Nm (List.replicate 32 0)).toArray 40)) [(w.heap.size, .cells o 40 (0, 0)), (wr.heap.size, .cells (Nm (fillN (dgt hh) 32 0)).toArray 40 (0, 0))]) := ⟨_, rfl, HQ2⟩
      have HB3 : Aside0 (Below wr.heap.size wr (wr.alloc (.cells (Nm (List.replicate 32 0)).toArray 40))) := ⟨(Below.refl _ _).alloc (Nat.le_refl _) _⟩
      obtain ⟨gd, HGD⟩ : ∃ gd, Aside0 (gd = wr.heap.size) := ⟨_, ⟨rfl⟩⟩
      rw [← HGD.out] at HQ3 ⊢
      clear HQ2 HR2 HQ1 HI1 HRA
      go_loopw [7, 8, 9] (fun i _ _ wr2 => ∃ k : Nat, k ≤ 32 ∧ i = .int .i64 k ∧ Bag w wr2 [(w.heap.size, .cells o0 40 (0, 0)), (gd, .cells (Nm (fillN (dgt hh) 32 k)).toArray 40 (0, 0))] ∧ Below wr.heap.size wr wr2) (fun i _ _ _ => 32 - (intOf i).toNat)
      case atStart => exact ⟨0, by omega, rfl, HQ3.out, HB3.out⟩
      case round =>
        clear HQ3 HB3
        obtain ⟨k, hk, rfl, hQ, hB2⟩ := hrel
        have HQ := Aside0.mk hQ
        have HB2 := Aside0.mk hB2
        clear hQ hB2
        by_cases hlt : k < 32
        · have hX := HWS.out.at_ ((k / 4 : Nat) : Int)
          have hx : wr.cell? ⟨gh, k / 4, none⟩ = some (.int .u32 (rd hh ((k / 4 : Nat) : Int))) := by
            have := rdW_pl (Kd.C_below HR.out HB2.out) (k / 4) (by omega)
            rwa [Nat.zero_add] at this
          have HRD := Aside0.mk (rd_dgt hh k hlt)
          have hDL := dgt_len hh
          have hlen : (Nm (fillN (dgt hh) 32 k)).toArray.size = 32 := by rw [List.size_toArray, Nm_len, fillN_len (by omega) (by omega)]
          have hg1 := HQ.out.at 1 rfl
          have hc : wr.cell? ⟨gd, k, none⟩ = some ((Nm (fillN (dgt hh) 32 k)).toArray[k]'(by omega)) := by rw [blk_cell hg1, Array.getElem?_eq_getElem (by omega)]
          have hf : wr.frozen? ⟨gd, k, none⟩ = false := blk_frozen hg1 _
          have HS : Aside0 (∀ v, v = Value.int .u8 (rd (dgt hh) k) → SetBlk wr (wr.setCell ⟨gd, k, none⟩ v) gd (.cells (Nm (fillN (dgt hh) 32 (k + 1))).toArray 40 (0, 0))) := ⟨by
            rintro v rfl
            have := setBlk_cell hg1 (.int .u8 (rd (dgt hh) k)) (i := k)
            rwa [Nm_set, fillN_set hlt (by omega)] at this⟩
          rw [HRD.out] at HS
          generalize (Nm (fillN (dgt hh) 32 k)).toArray[k]'(by omega) = old at *
          generalize rd hh ((k / 4 : Nat) : Int) = X at *
          clear hlen hg1 HRD
          obtain ⟨t1, t2, t3⟩ : ((k : Int) / 4).toNat = k / 4 ∧ 0 ≤ (k : Int) / 4 ∧ (k : Int) / 4 < 8 := by omega
          go_wp2
          go_loopw [8, 9] (fun x m wr3 => ∃ j : Nat, k % 4 ≤ j ∧ j ≤ 3 ∧ m = .int .i64 (j : Int) ∧ x = .int .u32 (X / 256 ^ (j - k % 4)) ∧ wr = wr3) (fun _ m _ => 3 - (intOf m).toNat)
          case atStart => exact ⟨k % 4, Nat.le_refl _, by omega, by congr 1, by rw [Nat.sub_self]; simp, rfl⟩
          case round =>
            clear hx t1 t2 t3
            obtain ⟨j, hj0, hj, rfl, rfl, rfl⟩ := hrel
            have hY0 : 0 ≤ X / 256 ^ (j - k % 4) := Int.ediv_nonneg hX.1 (by exact Int.le_of_lt (Int.pow_pos (by omega)))
            have hY1 : X / 256 ^ (j - k % 4) < 4294967296 := Int.lt_of_le_of_lt (Int.ediv_le_self _ hX.1) hX.2
            by_cases hlj : j < 3
            · have HE : Aside0 (X / 256 ^ (j + 1 - k % 4) = X / 256 ^ (j - k % 4) / 256) := ⟨by
                rw [show j + 1 - k % 4 = (j - k % 4) + 1 by omega, Int.pow_succ, Int.ediv_ediv, if_neg (fun h => absurd h.1 (Int.not_lt.2 (Int.le_of_lt (Int.pow_pos (by omega))))), Int.sub_zero]⟩
              generalize X / 256 ^ (j - k % 4) = Y at *
              have hq := wrap_div Y 256 hY0 hY1 (by omega)
              clear hc hf
              go_wp2
              go_roundw
              case rel => exact ⟨j + 1, by omega, by omega, by go_num, by rw [HE.out], trivial⟩
              case measure => simp [intOf]; omega
            · obtain rfl : j = 3 := by omega
              generalize X / 256 ^ (3 - k % 4) = Y at *
              have r1 : Y.tmod 256 = Y % 256 := Int.tmod_eq_emod_of_nonneg hY0
              have r2 : IntKind.u32.wrap (Y % 256) = Y % 256 := by rw [IntKind.wrap_u32]; omega
              have r3 : IntKind.u8.wrap (Y % 256) = Y % 256 := by rw [IntKind.wrap_u8]; omega
              have hS := HS.out _ rfl
              have HS9 := Aside0.mk (HQ.out.set 1 rfl hS)
              have HS8 := Aside0.mk (HB2.out.trans (hS.below (by rw [HGD.out]; exact Nat.le_refl _)))
              clear hS
              go_wp2
              go_roundw
              case rel => exact ⟨k + 1, by omega, by go_num, HS9.out, HS8.out⟩
              case measure => simp [intOf]; omega
        · obtain rfl : k = 32 := by omega
          have eF : fillN (dgt hh) 32 32 = dgt hh := by
            unfold fillN
            rw [List.take_of_length_le (by rw [dgt_len]; exact Nat.le_refl _)]
            simp
          rw [eF] at HQ
          have hn32 := dgt_len hh
          have hst := st_row (P := Tryd.prog) (HQ.out.at 0 rfl) 40 (Nm (dgt hh)) (by rw [ho0, Nm_len, hn32]) (size_d _ hn32) (Nm_one _)
          have hld := ld_row (P := Tryd.prog) (HQ.out.at 1 rfl) 40 _ Tryd.underlying40 rfl (by rw [List.size_toArray]; exact size_d _ hn32)
          have hset := setBlk_cells (HQ.out.at 0 rfl) (Nm (dgt hh)) (by rw [ho0, Nm_len, hn32])
          generalize wr.setCells w.heap.size 0 (Nm (dgt hh)) = w2 at *
          have Q9 := HQ.out.set 0 rfl hset
          have HST := Aside0.mk hst
          have HLD := Aside0.mk hld
          have H2 := Aside0.mk hset
          clear hst hld hset
          go_wp2_with (first | (refine load_arm rfl 40 (.tmp 6) rfl rfl HLD.out ?_) | (refine store_arm rfl 40 (.tmp 2) (.tmp 48) rfl rfl rfl HST.out ?_))
          (try simp only [Exit.inBlock, Exit.then])
          refine bodyPost_ret (v := .agg (Nm (shaL xs)).toArray) (results_cell_row rfl _ _ w.heap.size _ _ _ _ rfl (by rw [HSH.out]; exact H2.out.at_) Tryd.underlying40 rfl ?_) rfl ⟨rfl, Q9.below⟩
          rw [size_d _ (shaL_len xs), List.size_toArray]
end Go.Proofs.YtnkkjmbpopodlaaDoor
