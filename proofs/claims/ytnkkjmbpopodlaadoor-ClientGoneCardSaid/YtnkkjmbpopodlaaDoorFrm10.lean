/- Contract: frame.Open. Conditions: its own. -/
import Derived.Test.YtnkkjmbpopodlaaDoorG11
namespace Go.Proofs.YtnkkjmbpopodlaaDoor
open Go.Proofs.YtnkkjmbpopodlaaDoorW.PrintLast (i64_w i32_w)
open Go.RowKit Go.Shelf Go.Proofs.YtnkkjmbpopodlaaDoorW.PrintWords Go.Proofs.YtnkkjmbpopodlaaDoorW.PrintMore
set_option linter.unusedVariables false
set_option linter.unusedSimpArgs false
theorem at_mt (x : Int) {f : FuncId} {w : World} {R : Ending → World → Prop} (h : Calls Tryd.prog f #[.bool true, .int .i64 x] w R) : Calls Tryd.prog f #[.bool true, .int .i64 x] w R := h
theorem Later.bel {w w' : World} (h : Later w w') : Below w.heap.size w w' := h
theorem at_m (x : Int) {f : FuncId} {b : Value} {w : World} {R : Ending → World → Prop} (h : Calls Tryd.prog f #[b, .int .i64 x] w R) : Calls Tryd.prog f #[b, .int .i64 x] w R := h
theorem must_yes {b : Bool} (h : b = true) (x : Int) (w : World) : Calls Tryd.prog 70 #[.bool b, .int .i64 x] w fun e w' => e = .returned (.tuple #[]) ∧ w = w' := by subst h; exact must_true x w
theorem must_no {b : Bool} (h : b = false) (x : Int) (w : World) : Calls Tryd.prog 70 #[.bool b, .int .i64 x] w fun e w' => e = .panicked [{ v := .iface 119 (.agg #[.int .i64 x]), recovered := false }] ∧ w = w' := by subst h; exact must_false x w
set_option maxRecDepth 20000 in
set_option maxHeartbeats 400000 in
theorem open_form (A : Option Addr) (N c : Nat) (f : List Int) (most : Int) (w : World) (h : RdB w A N f) (hb : Bytes f) (hc : N ≤ c) (hN : N ≤ 549755813888) (hl : lenL f = none) :
    Calls Tryd.prog 43 #[.slice A N c, .int .i64 most] w fun e w' => UnPost w ⟨[], 2⟩ e w' := by
  obtain rfl : f.length = N := h.1
  have HX := Aside0.mk h
  clear h
  have HV := Aside0.mk (lenV_none hl)
  have hmf : ∀ (fn : Fn) (first cap : Array Value) (w : World), (Instr.makeFunc fn first cap).run Tryd.prog w = .ok (.func fn first cap) w := fun _ _ _ _ => rfl
  go_enter_defers Tryd.func43, Tryd.ntmps43
  go_wp2_with (first
    | (go_at_call 69; (with_reducible refine at_cw (World.alloc (World.alloc w (.cells #[.slice none 0 0] 37)) (.cells #[.int .i64 0] 31)) ?_); refine (length_calls A f.length c f _ (Kd.C_below HX.out (St.new w _ _).below) hb (Nat.le_trans hN (by decide))).mono ?_; rw [HV.out]; rintro e u0 ⟨rfl, rfl⟩; have S0 := Aside0.mk (St.new w (.slice none 0 0) 2))
    | (go_at_call 70; (with_reducible refine at_m 2 ?_); refine (must_no (by decide) 2 _).mono ?_; rintro e u1 ⟨rfl, rfl⟩))
  refine open_panics S0.out ?_ ?_ ?_ <;> rfl
set_option maxRecDepth 20000 in
set_option maxHeartbeats 400000 in
theorem open_range (A : Option Addr) (N c n : Nat) (f : List Int) (most : Int) (w : World) (h : RdB w A N f) (hb : Bytes f) (hc : N ≤ c) (hN : N ≤ 549755813888) (hl : lenL f = some n) (hn : ¬ (n : Int) ≤ most) :
    Calls Tryd.prog 43 #[.slice A N c, .int .i64 most] w fun e w' => UnPost w ⟨[], 3⟩ e w' := by
  obtain rfl : f.length = N := h.1
  have HX := Aside0.mk h
  clear h
  have HV := Aside0.mk (lenL_some hl).2.2.2
  have hmf : ∀ (fn : Fn) (first cap : Array Value) (w : World), (Instr.makeFunc fn first cap).run Tryd.prog w = .ok (.func fn first cap) w := fun _ _ _ _ => rfl
  go_enter_defers Tryd.func43, Tryd.ntmps43
  go_wp2_with (first
    | (go_at_call 69; (with_reducible refine at_cw (World.alloc (World.alloc w (.cells #[.slice none 0 0] 37)) (.cells #[.int .i64 0] 31)) ?_); refine (length_calls A f.length c f _ (Kd.C_below HX.out (St.new w _ _).below) hb (Nat.le_trans hN (by decide))).mono ?_; rw [HV.out]; rintro e u0 ⟨rfl, rfl⟩; have S0 := Aside0.mk (St.new w (.slice none 0 0) 0))
    | (go_at_call 70; (with_reducible refine at_m 0 ?_); refine (must_yes (by decide) 0 _).mono ?_; rintro e u1 ⟨rfl, rfl⟩)
    | (go_at_call 70; (with_reducible refine at_m 3 ?_); refine (must_no (by simp [hn]) 3 _).mono ?_; rintro e u1 ⟨rfl, rfl⟩))
  refine open_panics S0.out ?_ ?_ ?_ <;> rfl
set_option maxRecDepth 20000 in
set_option maxHeartbeats 400000 in
theorem open_t0 (A : Option Addr) (N c n : Nat) (f b : List Int) (most : Int) (w : World) (h : RdB w A N f) (hb : Bytes f) (hc : N ≤ c) (hN : N ≤ 549755813888) (hl : lenL f = some n) (hn : (n : Int) ≤ most) (he : midL f 6 (f.length - 4) = b) (hp : packedB f = false) (ht : b.length ≠ n) :
    Calls Tryd.prog 43 #[.slice A N c, .int .i64 most] w fun e w' => UnPost w ⟨[], 2⟩ e w' := by
  obtain rfl : f.length = N := h.1
  have HX := Aside0.mk h
  clear h
  have HV := Aside0.mk (lenL_some hl).2.2.2
  have h10 := (lenL_some hl).1
  have hbb : Bytes b := by rw [← he]; exact Bytes.mid hb _ _
  have hbl : b.length = f.length - 4 - 6 := by rw [← he]; exact midL_len (by omega)
  obtain ⟨B, hcut, hr⟩ : ∃ B, (∀ W : World, (Instr.slice 37 (.slice A f.length c) (some (.int .i64 6)) (some (.int .i64 ((f.length : Int) - 4))) none).run Tryd.prog W = .ok (.slice B b.length (c - 6)) W) ∧ RdB w B b.length b := by
    have hwm := cutMid HX.out hc 6 ((f.length : Int) - 4) (by omega) (by omega) (by omega)
    rw [show ((f.length : Int) - 4).toNat = f.length - 4 by omega, show (6 : Int).toNat = 6 from rfl, he, ← hbl] at hwm
    exact ⟨_, hwm⟩
  have HR := Aside0.mk hr
  have hbl2 : b.length ≤ f.length := by omega
  clear hr he hbl
  have hmf : ∀ (fn : Fn) (first cap : Array Value) (w : World), (Instr.makeFunc fn first cap).run Tryd.prog w = .ok (.func fn first cap) w := fun _ _ _ _ => rfl
  go_enter_defers Tryd.func43, Tryd.ntmps43
  go_wp2_with (first
    | (go_at_call 69; (with_reducible refine at_cw (World.alloc (World.alloc w (.cells #[.slice none 0 0] 37)) (.cells #[.int .i64 0] 31)) ?_); refine (length_calls A f.length c f _ (Kd.C_below HX.out (St.new w _ _).below) hb (Nat.le_trans hN (by decide))).mono ?_; rw [HV.out]; rintro e u0 ⟨rfl, rfl⟩; have S0 := Aside0.mk (St.new w (.slice none 0 0) 0))
    | (go_at_call 70; (with_reducible refine at_m 0 ?_); refine (must_yes (by decide) 0 _).mono ?_; rintro e u1 ⟨rfl, rfl⟩)
    | (go_at_call 70; (with_reducible refine at_m 3 ?_); refine (must_yes (by simp [hn]) 3 _).mono ?_; rintro e u1 ⟨rfl, rfl⟩)
    | (go_at_call 57; refine (clone_calls B _ _ b _ (Kd.C_below HR.out S0.out.below) (by omega)).mono ?_; rintro e w1 ⟨v1, rfl, hO, hB⟩; have c1 := (S0.out.call hB).cb; have c2 := (S0.out.call hB).fb; obtain ⟨B1, d1, rfl, hd1, _⟩ := hO.reads; have hO := S0.out.ownB hO (.slice B1 b.length d1); have hr1 := hO.parts.2; have S1 := Aside0.mk ((S0.out.call hB).setB (.slice B1 b.length d1)); have HO1 := Aside0.mk hO; have HR1 := Aside0.mk hr1; have c3 := S1.out.cb; have c4 := S1.out.ce; have c5 := S1.out.fb; have c6 := S1.out.fe; clear hO hB hr1)
    | (go_at_call 71; refine (packed_calls A f.length c f _ (Kd.C_below HX.out S1.out.below) hb (Nat.le_trans hN (by decide))).mono ?_; rw [hp]; rintro e u2 ⟨rfl, rfl⟩)
    | (go_at_call 70; (with_reducible refine at_m 2 ?_); refine (must_no (by simp; omega) 2 _).mono ?_; rintro e u1 ⟨rfl, rfl⟩))
  refine open_panics S1.out ?_ ?_ ?_ <;> rfl
set_option maxRecDepth 20000 in
set_option maxHeartbeats 400000 in
theorem open_u0 (A : Option Addr) (N c n : Nat) (f b : List Int) (most : Int) (w : World) (h : RdB w A N f) (hb : Bytes f) (hc : N ≤ c) (hN : N ≤ 549755813888) (hl : lenL f = some n) (hn : (n : Int) ≤ most) (he : midL f 6 (f.length - 4) = b) (hp : packedB f = true) (X : List Int) (E : Int) (hu : unp n b = ⟨X, E⟩) (ht : ¬ E = 0) :
    Calls Tryd.prog 43 #[.slice A N c, .int .i64 most] w fun e w' => UnPost w ⟨[], 2⟩ e w' := by
  obtain rfl : f.length = N := h.1
  have HX := Aside0.mk h
  clear h
  have HV := Aside0.mk (lenL_some hl).2.2.2
  have h10 := (lenL_some hl).1
  have hbb : Bytes b := by rw [← he]; exact Bytes.mid hb _ _
  have hbl : b.length = f.length - 4 - 6 := by rw [← he]; exact midL_len (by omega)
  obtain ⟨B, hcut, hr⟩ : ∃ B, (∀ W : World, (Instr.slice 37 (.slice A f.length c) (some (.int .i64 6)) (some (.int .i64 ((f.length : Int) - 4))) none).run Tryd.prog W = .ok (.slice B b.length (c - 6)) W) ∧ RdB w B b.length b := by
    have hwm := cutMid HX.out hc 6 ((f.length : Int) - 4) (by omega) (by omega) (by omega)
    rw [show ((f.length : Int) - 4).toNat = f.length - 4 by omega, show (6 : Int).toNat = 6 from rfl, he, ← hbl] at hwm
    exact ⟨_, hwm⟩
  have HR := Aside0.mk hr
  have hbl2 : b.length ≤ f.length := by omega
  clear hr he hbl
  have HU := Aside0.mk hu
  clear hu
  have hmf : ∀ (fn : Fn) (first cap : Array Value) (w : World), (Instr.makeFunc fn first cap).run Tryd.prog w = .ok (.func fn first cap) w := fun _ _ _ _ => rfl
  go_enter_defers Tryd.func43, Tryd.ntmps43
  go_wp2_with (first
    | (go_at_call 69; (with_reducible refine at_cw (World.alloc (World.alloc w (.cells #[.slice none 0 0] 37)) (.cells #[.int .i64 0] 31)) ?_); refine (length_calls A f.length c f _ (Kd.C_below HX.out (St.new w _ _).below) hb (Nat.le_trans hN (by decide))).mono ?_; rw [HV.out]; rintro e u0 ⟨rfl, rfl⟩; have S0 := Aside0.mk (St.new w (.slice none 0 0) 0))
    | (go_at_call 70; (with_reducible refine at_m 0 ?_); refine (must_yes (by decide) 0 _).mono ?_; rintro e u1 ⟨rfl, rfl⟩)
    | (go_at_call 70; (with_reducible refine at_m 3 ?_); refine (must_yes (by simp [hn]) 3 _).mono ?_; rintro e u1 ⟨rfl, rfl⟩)
    | (go_at_call 57; refine (clone_calls B _ _ b _ (Kd.C_below HR.out S0.out.below) (by omega)).mono ?_; rintro e w1 ⟨v1, rfl, hO, hB⟩; have c1 := (S0.out.call hB).cb; have c2 := (S0.out.call hB).fb; obtain ⟨B1, d1, rfl, hd1, _⟩ := hO.reads; have hO := S0.out.ownB hO (.slice B1 b.length d1); have hr1 := hO.parts.2; have S1 := Aside0.mk ((S0.out.call hB).setB (.slice B1 b.length d1)); have HO1 := Aside0.mk hO; have HR1 := Aside0.mk hr1; have c3 := S1.out.cb; have c4 := S1.out.ce; have c5 := S1.out.fb; have c6 := S1.out.fe; clear hO hB hr1)
    | (go_at_call 71; refine (packed_calls A f.length c f _ (Kd.C_below HX.out S1.out.below) hb (Nat.le_trans hN (by decide))).mono ?_; rw [hp]; rintro e u2 ⟨rfl, rfl⟩)
    | (go_at_call 72; refine (unpack_calls B1 b.length d1 b n _ HR1.out hbb hd1 (by omega)).mono ?_; rw [HU.out]; rintro e w2 ⟨⟨v2, he, hO, hb2⟩, hB⟩; dsimp only at he hO hb2; subst he; obtain ⟨B2, d2, rfl, hd2, _⟩ := hO.reads; have k1 := (S1.out.call hB).cb; have k2 := (S1.out.call hB).fb; have T1 := (S1.out.call hB).setB (.slice B2 X.length d2); have k3 := T1.ce; have k4 := T1.fe; have hO := S1.out.ownE (S1.out.ownB hO (.slice B2 X.length d2)) (.int .i64 E); have hr2 := hO.parts.2; have S2 := Aside0.mk (T1.setE E); have HO2 := Aside0.mk hO; have HR2 := Aside0.mk hr2; have k5 := S2.out.cb; have k6 := S2.out.ce; have k7 := S2.out.fb; have k8 := S2.out.fe; clear hO hB hr2)
    | (go_at_call 70; (with_reducible refine at_m 2 ?_); refine (must_no (by simp [ht]) 2 _).mono ?_; rintro e u1 ⟨rfl, rfl⟩))
  refine open_panics S2.out ?_ ?_ ?_ <;> rfl
set_option maxRecDepth 20000 in
set_option maxHeartbeats 400000 in
theorem open_u1 (A : Option Addr) (N c n : Nat) (f b : List Int) (most : Int) (w : World) (h : RdB w A N f) (hb : Bytes f) (hc : N ≤ c) (hN : N ≤ 549755813888) (hl : lenL f = some n) (hn : (n : Int) ≤ most) (he : midL f 6 (f.length - 4) = b) (hp : packedB f = true) (X : List Int) (hu : unp n b = ⟨X, 0⟩) (ht : X.length ≠ n) :
    Calls Tryd.prog 43 #[.slice A N c, .int .i64 most] w fun e w' => UnPost w ⟨[], 2⟩ e w' := by
  obtain rfl : f.length = N := h.1
  have HX := Aside0.mk h
  clear h
  have HV := Aside0.mk (lenL_some hl).2.2.2
  have h10 := (lenL_some hl).1
  have hbb : Bytes b := by rw [← he]; exact Bytes.mid hb _ _
  have hbl : b.length = f.length - 4 - 6 := by rw [← he]; exact midL_len (by omega)
  obtain ⟨B, hcut, hr⟩ : ∃ B, (∀ W : World, (Instr.slice 37 (.slice A f.length c) (some (.int .i64 6)) (some (.int .i64 ((f.length : Int) - 4))) none).run Tryd.prog W = .ok (.slice B b.length (c - 6)) W) ∧ RdB w B b.length b := by
    have hwm := cutMid HX.out hc 6 ((f.length : Int) - 4) (by omega) (by omega) (by omega)
    rw [show ((f.length : Int) - 4).toNat = f.length - 4 by omega, show (6 : Int).toNat = 6 from rfl, he, ← hbl] at hwm
    exact ⟨_, hwm⟩
  have HR := Aside0.mk hr
  have hbl2 : b.length ≤ f.length := by omega
  clear hr he hbl
  have HU := Aside0.mk hu
  clear hu
  have hmf : ∀ (fn : Fn) (first cap : Array Value) (w : World), (Instr.makeFunc fn first cap).run Tryd.prog w = .ok (.func fn first cap) w := fun _ _ _ _ => rfl
  go_enter_defers Tryd.func43, Tryd.ntmps43
  go_wp2_with (first
    | (go_at_call 69; (with_reducible refine at_cw (World.alloc (World.alloc w (.cells #[.slice none 0 0] 37)) (.cells #[.int .i64 0] 31)) ?_); refine (length_calls A f.length c f _ (Kd.C_below HX.out (St.new w _ _).below) hb (Nat.le_trans hN (by decide))).mono ?_; rw [HV.out]; rintro e u0 ⟨rfl, rfl⟩; have S0 := Aside0.mk (St.new w (.slice none 0 0) 0))
    | (go_at_call 70; (with_reducible refine at_m 0 ?_); refine (must_yes (by decide) 0 _).mono ?_; rintro e u1 ⟨rfl, rfl⟩)
    | (go_at_call 70; (with_reducible refine at_m 3 ?_); refine (must_yes (by simp [hn]) 3 _).mono ?_; rintro e u1 ⟨rfl, rfl⟩)
    | (go_at_call 57; refine (clone_calls B _ _ b _ (Kd.C_below HR.out S0.out.below) (by omega)).mono ?_; rintro e w1 ⟨v1, rfl, hO, hB⟩; have c1 := (S0.out.call hB).cb; have c2 := (S0.out.call hB).fb; obtain ⟨B1, d1, rfl, hd1, _⟩ := hO.reads; have hO := S0.out.ownB hO (.slice B1 b.length d1); have hr1 := hO.parts.2; have S1 := Aside0.mk ((S0.out.call hB).setB (.slice B1 b.length d1)); have HO1 := Aside0.mk hO; have HR1 := Aside0.mk hr1; have c3 := S1.out.cb; have c4 := S1.out.ce; have c5 := S1.out.fb; have c6 := S1.out.fe; clear hO hB hr1)
    | (go_at_call 71; refine (packed_calls A f.length c f _ (Kd.C_below HX.out S1.out.below) hb (Nat.le_trans hN (by decide))).mono ?_; rw [hp]; rintro e u2 ⟨rfl, rfl⟩)
    | (go_at_call 72; refine (unpack_calls B1 b.length d1 b n _ HR1.out hbb hd1 (by omega)).mono ?_; rw [HU.out]; rintro e w2 ⟨⟨v2, he, hO, hb2⟩, hB⟩; dsimp only at he hO hb2; subst he; obtain ⟨B2, d2, rfl, hd2, _⟩ := hO.reads; have k1 := (S1.out.call hB).cb; have k2 := (S1.out.call hB).fb; have T1 := (S1.out.call hB).setB (.slice B2 X.length d2); have k3 := T1.ce; have k4 := T1.fe; have hO := S1.out.ownE (S1.out.ownB hO (.slice B2 X.length d2)) (.int .i64 0); have hr2 := hO.parts.2; have S2 := Aside0.mk (T1.setE 0); have HO2 := Aside0.mk hO; have HR2 := Aside0.mk hr2; have k5 := S2.out.cb; have k6 := S2.out.ce; have k7 := S2.out.fb; have k8 := S2.out.fe; clear hO hB hr2)
    | (go_at_call 70; (with_reducible refine at_mt 2 ?_); refine (must_true 2 _).mono ?_; rintro e u1 ⟨rfl, rfl⟩)
    | (go_at_call 70; (with_reducible refine at_m 2 ?_); refine (must_no (by simp; omega) 2 _).mono ?_; rintro e u1 ⟨rfl, rfl⟩))
  refine open_panics S2.out ?_ ?_ ?_ <;> rfl
set_option maxRecDepth 20000 in
set_option maxHeartbeats 400000 in
theorem open_t1 (A : Option Addr) (N c n : Nat) (f b : List Int) (most : Int) (w : World) (h : RdB w A N f) (hb : Bytes f) (hc : N ≤ c) (hN : N ≤ 549755813888) (hl : lenL f = some n) (hn : (n : Int) ≤ most) (he : midL f 6 (f.length - 4) = b) (hp : packedB f = false) (ht : n = b.length) (hs : le32 (crc 0 b) ≠ f.drop (f.length - 4)) :
    Calls Tryd.prog 43 #[.slice A N c, .int .i64 most] w fun e w' => UnPost w ⟨[], 7⟩ e w' := by
  obtain rfl : f.length = N := h.1
  have HX := Aside0.mk h
  clear h
  have HV := Aside0.mk (lenL_some hl).2.2.2
  have h10 := (lenL_some hl).1
  have hbb : Bytes b := by rw [← he]; exact Bytes.mid hb _ _
  have hbl : b.length = f.length - 4 - 6 := by rw [← he]; exact midL_len (by omega)
  obtain ⟨B, hcut, hr⟩ : ∃ B, (∀ W : World, (Instr.slice 37 (.slice A f.length c) (some (.int .i64 6)) (some (.int .i64 ((f.length : Int) - 4))) none).run Tryd.prog W = .ok (.slice B b.length (c - 6)) W) ∧ RdB w B b.length b := by
    have hwm := cutMid HX.out hc 6 ((f.length : Int) - 4) (by omega) (by omega) (by omega)
    rw [show ((f.length : Int) - 4).toNat = f.length - 4 by omega, show (6 : Int).toNat = 6 from rfl, he, ← hbl] at hwm
    exact ⟨_, hwm⟩
  have HR := Aside0.mk hr
  have hbl2 : b.length ≤ f.length := by omega
  clear hr he hbl
  obtain ⟨C, hcutF, hrF⟩ : ∃ C, (∀ W : World, (Instr.slice 37 (.slice A f.length c) (some (.int .i64 ((f.length : Int) - 4))) none none).run Tryd.prog W = .ok (.slice C 4 (c - (f.length - 4))) W) ∧ RdB w C 4 (f.drop (f.length - 4)) := by
    have hwm := cutFrom HX.out hc ((f.length : Int) - 4) (by omega) (by omega)
    rw [show ((f.length : Int) - 4).toNat = f.length - 4 by omega, show f.length - (f.length - 4) = 4 by omega] at hwm
    exact ⟨_, hwm⟩
  have HF := Aside0.mk hrF
  have HWF : Aside0 (wrap64 ((f.length : Int) - 4) = (f.length : Int) - 4) := ⟨by unfold wrap64; omega⟩
  clear hrF
  subst ht
  have HS := Aside0.mk hs
  clear hs
  have hmf : ∀ (fn : Fn) (first cap : Array Value) (w : World), (Instr.makeFunc fn first cap).run Tryd.prog w = .ok (.func fn first cap) w := fun _ _ _ _ => rfl
  go_enter_defers Tryd.func43, Tryd.ntmps43
  go_wp2_with (first
    | (go_at_call 69; (with_reducible refine at_cw (World.alloc (World.alloc w (.cells #[.slice none 0 0] 37)) (.cells #[.int .i64 0] 31)) ?_); refine (length_calls A f.length c f _ (Kd.C_below HX.out (St.new w _ _).below) hb (Nat.le_trans hN (by decide))).mono ?_; rw [HV.out]; rintro e u0 ⟨rfl, rfl⟩; have S0 := Aside0.mk (St.new w (.slice none 0 0) 0))
    | (go_at_call 70; (with_reducible refine at_m 0 ?_); refine (must_yes (by decide) 0 _).mono ?_; rintro e u1 ⟨rfl, rfl⟩)
    | (go_at_call 70; (with_reducible refine at_m 3 ?_); refine (must_yes (by simp [hn]) 3 _).mono ?_; rintro e u1 ⟨rfl, rfl⟩)
    | (go_at_call 57; refine (clone_calls B _ _ b _ (Kd.C_below HR.out S0.out.below) (by omega)).mono ?_; rintro e w1 ⟨v1, rfl, hO, hB⟩; have c1 := (S0.out.call hB).cb; have c2 := (S0.out.call hB).fb; obtain ⟨B1, d1, rfl, hd1, _⟩ := hO.reads; have hO := S0.out.ownB hO (.slice B1 b.length d1); have hr1 := hO.parts.2; have S1 := Aside0.mk ((S0.out.call hB).setB (.slice B1 b.length d1)); have HO1 := Aside0.mk hO; have HR1 := Aside0.mk hr1; have c3 := S1.out.cb; have c4 := S1.out.ce; have c5 := S1.out.fb; have c6 := S1.out.fe; clear hO hB hr1)
    | (go_at_call 71; refine (packed_calls A f.length c f _ (Kd.C_below HX.out S1.out.below) hb (Nat.le_trans hN (by decide))).mono ?_; rw [hp]; rintro e u2 ⟨rfl, rfl⟩)
    | (go_at_call 70; (with_reducible refine at_mt 2 ?_); refine (must_true 2 _).mono ?_; rintro e u1 ⟨rfl, rfl⟩))
  have D := Aside0.mk S1.out.drew
  have hcr := crc_lt (s := 0) (by omega) hbb
  have HRd := Aside0.mk (Kd.C_below HR1.out (Below.drew (Below.refl _ _)))
  refine seq_startA 5 [] (.take 0 (.take 3 (.take 4 (.take 5 (.take 6 (.take 7 (.run 1 (.run 2 (.take 8 (.run 9 .done)))))))))) (by kernel_rfl) (by kernel_rfl) (by kernel_rfl) (fun c a t v w ht h => open_put v ht h) ?_
  refine seq_take (v := ?_) (a' := ?_) rfl rfl (by rfl) (fun w' hw' => ?_) ?_ ?_
  rotate_left 2
  · have hq := (D.out.call hw').cb; go_simp
    with_reducible rfl
  · simp only [Act.put, List.setIfInBounds_toArray, List.set_cons_zero, List.set_cons_succ, i64_w, i32_w]
    rfl
  refine seq_take (v := ?_) (a' := ?_) rfl rfl (by rfl) (fun w' hw' => ?_) ?_ ?_
  rotate_left 2
  · go_simp
    with_reducible rfl
  · simp only [Act.put, List.setIfInBounds_toArray, List.set_cons_zero, List.set_cons_succ, i64_w, i32_w]
    rfl
  refine seq_take (v := ?_) (a' := ?_) rfl rfl (by rfl) (fun w' hw' => ?_) ?_ ?_
  rotate_left 2
  · go_simp
    with_reducible rfl
  · simp only [Act.put, List.setIfInBounds_toArray, List.set_cons_zero, List.set_cons_succ, i64_w, i32_w]
    rfl
  refine seq_take (v := ?_) (a' := ?_) rfl rfl (by rfl) (fun w' hw' => ?_) ?_ ?_
  rotate_left 2
  · go_simp
    with_reducible rfl
  · simp only [Act.put, List.setIfInBounds_toArray, List.set_cons_zero, List.set_cons_succ, i64_w, i32_w]
    rfl
  refine seq_take (v := ?_) (a' := ?_) rfl rfl (by rfl) (fun w' hw' => ?_) ?_ ?_
  rotate_left 2
  · go_simp
    with_reducible rfl
  · simp only [Act.put, List.setIfInBounds_toArray, List.set_cons_zero, List.set_cons_succ, i64_w, i32_w]
    rfl
  refine seq_take (v := ?_) (a' := ?_) rfl rfl (by rfl) (fun w' hw' => ?_) ?_ ?_
  rotate_left 2
  · have hq := HWF.out; go_simp
    with_reducible rfl
  · simp only [Act.put, List.setIfInBounds_toArray, List.set_cons_zero, List.set_cons_succ, i64_w, i32_w]
    rfl
  refine seq_run ?_
  refine do_call rfl rfl (by rfl) rfl Tryd.func75 (by kernel_rfl) rfl #[.slice B1 b.length d1] (by simp only [List.map_toArray, List.map_cons, List.map_nil]; rfl) ?_
  with_reducible refine (sum_calls B1 b.length d1 b _ HRd.out hbb).mono ?_
  rintro e w5 ⟨rfl, hB5⟩
  refine ⟨_, ?_, rfl, ?_, fun _ => hB5, ?_⟩
  rotate_left
  · simp only [Act.put, List.setIfInBounds_toArray, List.set_cons_zero, List.set_cons_succ, i64_w, i32_w]
    rfl
  refine seq_run ?_
  refine do_call rfl rfl (by rfl) rfl Tryd.func74 (by kernel_rfl) rfl #[.int .u32 (crc 0 b)] (by simp only [List.map_toArray, List.map_cons, List.map_nil]; rfl) ?_
  with_reducible refine ((number_calls (crc 0 b) (by omega) _)).mono ?_
  rintro e w6 ⟨rfl, rfl⟩
  refine ⟨_, ?_, rfl, ?_, fun _ => below_alloc (Below.refl _ _) _, ?_⟩
  rotate_left
  · simp only [Act.put, List.setIfInBounds_toArray, List.set_cons_zero, List.set_cons_succ, i64_w, i32_w]
    rfl
  have D6 := Aside0.mk ((D.out.call hB5).call (below_alloc (Below.refl _ _) (.cells ((le32 (crc 0 b)).map (Value.int .u8)).toArray 5)))
  have HQ : Aside0 (RdB (w5.alloc (.cells ((le32 (crc 0 b)).map (Value.int .u8)).toArray 5)) (some ⟨w5.heap.size, 0, none⟩) 4 (le32 (crc 0 b))) := ⟨rd_lit2 rfl (le32 (crc 0 b)) _ _ 4 rfl rfl (by simp [le32])⟩
  refine seq_quiet (v := ?_) (a' := ?_) rfl rfl (by rfl) rfl Tryd.func73 (by kernel_rfl) rfl #[.slice (some ⟨w5.heap.size, 0, none⟩) 4 4, .slice C 4 (c - (f.length - 4))] (by simp only [List.map_toArray, List.map_cons, List.map_nil]; rfl) (fun w' hw' => ?_) ?_ ?_
  rotate_left 2
  · with_reducible exact equal_calls (some ⟨w5.heap.size, 0, none⟩) C 4 4 4 (c - (f.length - 4)) (le32 (crc 0 b)) (f.drop (f.length - 4)) w' (Kd.C_below HQ.out hw'.bel) (Kd.C_below HF.out (D6.out.call hw'.bel).below) (le32_bytes _) (hb.drop _)
  · simp only [Act.put, List.setIfInBounds_toArray, List.set_cons_zero, List.set_cons_succ, i64_w, i32_w]
    rfl
  refine seq_run ?_
  refine do_call_panic rfl rfl (by rfl) rfl Tryd.func70 (by kernel_rfl) rfl #[.bool (decide (le32 (crc 0 b) = f.drop (f.length - 4))), .int .i64 7] (by simp only [List.map_toArray, List.map_cons, List.map_nil]; rfl) ?_
  refine (must_no (by simp [HS.out]) 7 _).mono ?_
  rintro e u1 ⟨rfl, rfl⟩
  refine ⟨_, rfl, ?_⟩
  refine open_panics D6.out ?_ ?_ ?_ <;> rfl
set_option maxRecDepth 20000 in
set_option maxHeartbeats 400000 in
theorem open_t2 (A : Option Addr) (N c n : Nat) (f b : List Int) (most : Int) (w : World) (h : RdB w A N f) (hb : Bytes f) (hc : N ≤ c) (hN : N ≤ 549755813888) (hl : lenL f = some n) (hn : (n : Int) ≤ most) (he : midL f 6 (f.length - 4) = b) (hp : packedB f = false) (ht : n = b.length) (hs : le32 (crc 0 b) = f.drop (f.length - 4)) :
    Calls Tryd.prog 43 #[.slice A N c, .int .i64 most] w fun e w' => UnPost w ⟨b, 0⟩ e w' := by
  obtain rfl : f.length = N := h.1
  have HX := Aside0.mk h
  clear h
  have HV := Aside0.mk (lenL_some hl).2.2.2
  have h10 := (lenL_some hl).1
  have hbb : Bytes b := by rw [← he]; exact Bytes.mid hb _ _
  have hbl : b.length = f.length - 4 - 6 := by rw [← he]; exact midL_len (by omega)
  obtain ⟨B, hcut, hr⟩ : ∃ B, (∀ W : World, (Instr.slice 37 (.slice A f.length c) (some (.int .i64 6)) (some (.int .i64 ((f.length : Int) - 4))) none).run Tryd.prog W = .ok (.slice B b.length (c - 6)) W) ∧ RdB w B b.length b := by
    have hwm := cutMid HX.out hc 6 ((f.length : Int) - 4) (by omega) (by omega) (by omega)
    rw [show ((f.length : Int) - 4).toNat = f.length - 4 by omega, show (6 : Int).toNat = 6 from rfl, he, ← hbl] at hwm
    exact ⟨_, hwm⟩
  have HR := Aside0.mk hr
  have hbl2 : b.length ≤ f.length := by omega
  clear hr he hbl
  obtain ⟨C, hcutF, hrF⟩ : ∃ C, (∀ W : World, (Instr.slice 37 (.slice A f.length c) (some (.int .i64 ((f.length : Int) - 4))) none none).run Tryd.prog W = .ok (.slice C 4 (c - (f.length - 4))) W) ∧ RdB w C 4 (f.drop (f.length - 4)) := by
    have hwm := cutFrom HX.out hc ((f.length : Int) - 4) (by omega) (by omega)
    rw [show ((f.length : Int) - 4).toNat = f.length - 4 by omega, show f.length - (f.length - 4) = 4 by omega] at hwm
    exact ⟨_, hwm⟩
  have HF := Aside0.mk hrF
  have HWF : Aside0 (wrap64 ((f.length : Int) - 4) = (f.length : Int) - 4) := ⟨by unfold wrap64; omega⟩
  clear hrF
  subst ht
  have HS := Aside0.mk hs
  clear hs
  have hmf : ∀ (fn : Fn) (first cap : Array Value) (w : World), (Instr.makeFunc fn first cap).run Tryd.prog w = .ok (.func fn first cap) w := fun _ _ _ _ => rfl
  go_enter_defers Tryd.func43, Tryd.ntmps43
  go_wp2_with (first
    | (go_at_call 69; (with_reducible refine at_cw (World.alloc (World.alloc w (.cells #[.slice none 0 0] 37)) (.cells #[.int .i64 0] 31)) ?_); refine (length_calls A f.length c f _ (Kd.C_below HX.out (St.new w _ _).below) hb (Nat.le_trans hN (by decide))).mono ?_; rw [HV.out]; rintro e u0 ⟨rfl, rfl⟩; have S0 := Aside0.mk (St.new w (.slice none 0 0) 0))
    | (go_at_call 70; (with_reducible refine at_m 0 ?_); refine (must_yes (by decide) 0 _).mono ?_; rintro e u1 ⟨rfl, rfl⟩)
    | (go_at_call 70; (with_reducible refine at_m 3 ?_); refine (must_yes (by simp [hn]) 3 _).mono ?_; rintro e u1 ⟨rfl, rfl⟩)
    | (go_at_call 57; refine (clone_calls B _ _ b _ (Kd.C_below HR.out S0.out.below) (by omega)).mono ?_; rintro e w1 ⟨v1, rfl, hO, hB⟩; have c1 := (S0.out.call hB).cb; have c2 := (S0.out.call hB).fb; obtain ⟨B1, d1, rfl, hd1, _⟩ := hO.reads; have hO := S0.out.ownB hO (.slice B1 b.length d1); have hr1 := hO.parts.2; have S1 := Aside0.mk ((S0.out.call hB).setB (.slice B1 b.length d1)); have HO1 := Aside0.mk hO; have HR1 := Aside0.mk hr1; have c3 := S1.out.cb; have c4 := S1.out.ce; have c5 := S1.out.fb; have c6 := S1.out.fe; clear hO hB hr1)
    | (go_at_call 71; refine (packed_calls A f.length c f _ (Kd.C_below HX.out S1.out.below) hb (Nat.le_trans hN (by decide))).mono ?_; rw [hp]; rintro e u2 ⟨rfl, rfl⟩)
    | (go_at_call 70; (with_reducible refine at_mt 2 ?_); refine (must_true 2 _).mono ?_; rintro e u1 ⟨rfl, rfl⟩))
  have D := Aside0.mk S1.out.drew
  have hcr := crc_lt (s := 0) (by omega) hbb
  have HRd := Aside0.mk (Kd.C_below HR1.out (Below.drew (Below.refl _ _)))
  refine seq_startA 5 [] (.take 0 (.take 3 (.take 4 (.take 5 (.take 6 (.take 7 (.run 1 (.run 2 (.take 8 (.run 9 .done)))))))))) (by kernel_rfl) (by kernel_rfl) (by kernel_rfl) (fun c a t v w ht h => open_put v ht h) ?_
  refine seq_take (v := ?_) (a' := ?_) rfl rfl (by rfl) (fun w' hw' => ?_) ?_ ?_
  rotate_left 2
  · have hq := (D.out.call hw').cb; go_simp
    with_reducible rfl
  · simp only [Act.put, List.setIfInBounds_toArray, List.set_cons_zero, List.set_cons_succ, i64_w, i32_w]
    rfl
  refine seq_take (v := ?_) (a' := ?_) rfl rfl (by rfl) (fun w' hw' => ?_) ?_ ?_
  rotate_left 2
  · go_simp
    with_reducible rfl
  · simp only [Act.put, List.setIfInBounds_toArray, List.set_cons_zero, List.set_cons_succ, i64_w, i32_w]
    rfl
  refine seq_take (v := ?_) (a' := ?_) rfl rfl (by rfl) (fun w' hw' => ?_) ?_ ?_
  rotate_left 2
  · go_simp
    with_reducible rfl
  · simp only [Act.put, List.setIfInBounds_toArray, List.set_cons_zero, List.set_cons_succ, i64_w, i32_w]
    rfl
  refine seq_take (v := ?_) (a' := ?_) rfl rfl (by rfl) (fun w' hw' => ?_) ?_ ?_
  rotate_left 2
  · go_simp
    with_reducible rfl
  · simp only [Act.put, List.setIfInBounds_toArray, List.set_cons_zero, List.set_cons_succ, i64_w, i32_w]
    rfl
  refine seq_take (v := ?_) (a' := ?_) rfl rfl (by rfl) (fun w' hw' => ?_) ?_ ?_
  rotate_left 2
  · go_simp
    with_reducible rfl
  · simp only [Act.put, List.setIfInBounds_toArray, List.set_cons_zero, List.set_cons_succ, i64_w, i32_w]
    rfl
  refine seq_take (v := ?_) (a' := ?_) rfl rfl (by rfl) (fun w' hw' => ?_) ?_ ?_
  rotate_left 2
  · have hq := HWF.out; go_simp
    with_reducible rfl
  · simp only [Act.put, List.setIfInBounds_toArray, List.set_cons_zero, List.set_cons_succ, i64_w, i32_w]
    rfl
  refine seq_run ?_
  refine do_call rfl rfl (by rfl) rfl Tryd.func75 (by kernel_rfl) rfl #[.slice B1 b.length d1] (by simp only [List.map_toArray, List.map_cons, List.map_nil]; rfl) ?_
  with_reducible refine (sum_calls B1 b.length d1 b _ HRd.out hbb).mono ?_
  rintro e w5 ⟨rfl, hB5⟩
  refine ⟨_, ?_, rfl, ?_, fun _ => hB5, ?_⟩
  rotate_left
  · simp only [Act.put, List.setIfInBounds_toArray, List.set_cons_zero, List.set_cons_succ, i64_w, i32_w]
    rfl
  refine seq_run ?_
  refine do_call rfl rfl (by rfl) rfl Tryd.func74 (by kernel_rfl) rfl #[.int .u32 (crc 0 b)] (by simp only [List.map_toArray, List.map_cons, List.map_nil]; rfl) ?_
  with_reducible refine ((number_calls (crc 0 b) (by omega) _)).mono ?_
  rintro e w6 ⟨rfl, rfl⟩
  refine ⟨_, ?_, rfl, ?_, fun _ => below_alloc (Below.refl _ _) _, ?_⟩
  rotate_left
  · simp only [Act.put, List.setIfInBounds_toArray, List.set_cons_zero, List.set_cons_succ, i64_w, i32_w]
    rfl
  have D6 := Aside0.mk ((D.out.call hB5).call (below_alloc (Below.refl _ _) (.cells ((le32 (crc 0 b)).map (Value.int .u8)).toArray 5)))
  have HQ : Aside0 (RdB (w5.alloc (.cells ((le32 (crc 0 b)).map (Value.int .u8)).toArray 5)) (some ⟨w5.heap.size, 0, none⟩) 4 (le32 (crc 0 b))) := ⟨rd_lit2 rfl (le32 (crc 0 b)) _ _ 4 rfl rfl (by simp [le32])⟩
  refine seq_quiet (v := ?_) (a' := ?_) rfl rfl (by rfl) rfl Tryd.func73 (by kernel_rfl) rfl #[.slice (some ⟨w5.heap.size, 0, none⟩) 4 4, .slice C 4 (c - (f.length - 4))] (by simp only [List.map_toArray, List.map_cons, List.map_nil]; rfl) (fun w' hw' => ?_) ?_ ?_
  rotate_left 2
  · with_reducible exact equal_calls (some ⟨w5.heap.size, 0, none⟩) C 4 4 4 (c - (f.length - 4)) (le32 (crc 0 b)) (f.drop (f.length - 4)) w' (Kd.C_below HQ.out hw'.bel) (Kd.C_below HF.out (D6.out.call hw'.bel).below) (le32_bytes _) (hb.drop _)
  · simp only [Act.put, List.setIfInBounds_toArray, List.set_cons_zero, List.set_cons_succ, i64_w, i32_w]
    rfl
  refine seq_run ?_
  refine do_call rfl rfl (by rfl) rfl Tryd.func70 (by kernel_rfl) rfl #[.bool (decide (le32 (crc 0 b) = f.drop (f.length - 4))), .int .i64 7] (by simp only [List.map_toArray, List.map_cons, List.map_nil]; rfl) ?_
  with_reducible refine (must_yes (by simp [HS.out]) 7 _).mono ?_
  rintro e u1 ⟨rfl, rfl⟩
  refine ⟨_, ?_, rfl, ?_, fun _ => Later.refl _, ?_⟩
  rotate_left
  · simp only [Act.put, List.setIfInBounds_toArray, List.set_cons_zero, List.set_cons_succ, i64_w, i32_w]
    rfl
  refine seq_end ?_
  have f1 := D6.out.cb
  have f2 := D6.out.fb
  have S7 := Aside0.mk (D6.out.setB (.slice B1 b.length d1))
  have f3 := S7.out.ce
  have f4 := S7.out.fe
  go_wp2
  have HOf := Kd.R_lower (S0.out.ownE (S0.out.ownB (OwB.below (OwB.below (OwB.below HO1.out (Below.drew (Below.refl _ _))) hB5) (below_alloc (Below.refl _ _) (.cells ((le32 (crc 0 b)).map (Value.int .u8)).toArray 5))) (.slice B1 b.length d1)) (.int .i64 0)) S0.out.below.size
  refine open_returns (S7.out.setE 0) HOf hbb ?_ ?_ <;> rfl
set_option maxRecDepth 20000 in
set_option maxHeartbeats 400000 in
theorem open_u2 (A : Option Addr) (N c n : Nat) (f b : List Int) (most : Int) (w : World) (h : RdB w A N f) (hb : Bytes f) (hc : N ≤ c) (hN : N ≤ 549755813888) (hl : lenL f = some n) (hn : (n : Int) ≤ most) (he : midL f 6 (f.length - 4) = b) (hp : packedB f = true) (X : List Int) (hu : unp n b = ⟨X, 0⟩) (ht : n = X.length) (hs : le32 (crc 0 X) ≠ f.drop (f.length - 4)) :
    Calls Tryd.prog 43 #[.slice A N c, .int .i64 most] w fun e w' => UnPost w ⟨[], 7⟩ e w' := by
  obtain rfl : f.length = N := h.1
  have HX := Aside0.mk h
  clear h
  have HV := Aside0.mk (lenL_some hl).2.2.2
  have h10 := (lenL_some hl).1
  have hbb : Bytes b := by rw [← he]; exact Bytes.mid hb _ _
  have hbl : b.length = f.length - 4 - 6 := by rw [← he]; exact midL_len (by omega)
  obtain ⟨B, hcut, hr⟩ : ∃ B, (∀ W : World, (Instr.slice 37 (.slice A f.length c) (some (.int .i64 6)) (some (.int .i64 ((f.length : Int) - 4))) none).run Tryd.prog W = .ok (.slice B b.length (c - 6)) W) ∧ RdB w B b.length b := by
    have hwm := cutMid HX.out hc 6 ((f.length : Int) - 4) (by omega) (by omega) (by omega)
    rw [show ((f.length : Int) - 4).toNat = f.length - 4 by omega, show (6 : Int).toNat = 6 from rfl, he, ← hbl] at hwm
    exact ⟨_, hwm⟩
  have HR := Aside0.mk hr
  have hbl2 : b.length ≤ f.length := by omega
  clear hr he hbl
  obtain ⟨C, hcutF, hrF⟩ : ∃ C, (∀ W : World, (Instr.slice 37 (.slice A f.length c) (some (.int .i64 ((f.length : Int) - 4))) none none).run Tryd.prog W = .ok (.slice C 4 (c - (f.length - 4))) W) ∧ RdB w C 4 (f.drop (f.length - 4)) := by
    have hwm := cutFrom HX.out hc ((f.length : Int) - 4) (by omega) (by omega)
    rw [show ((f.length : Int) - 4).toNat = f.length - 4 by omega, show f.length - (f.length - 4) = 4 by omega] at hwm
    exact ⟨_, hwm⟩
  have HF := Aside0.mk hrF
  have HWF : Aside0 (wrap64 ((f.length : Int) - 4) = (f.length : Int) - 4) := ⟨by unfold wrap64; omega⟩
  clear hrF
  subst ht
  have HU := Aside0.mk hu
  clear hu
  have HS := Aside0.mk hs
  clear hs
  have hmf : ∀ (fn : Fn) (first cap : Array Value) (w : World), (Instr.makeFunc fn first cap).run Tryd.prog w = .ok (.func fn first cap) w := fun _ _ _ _ => rfl
  go_enter_defers Tryd.func43, Tryd.ntmps43
  go_wp2_with (first
    | (go_at_call 69; (with_reducible refine at_cw (World.alloc (World.alloc w (.cells #[.slice none 0 0] 37)) (.cells #[.int .i64 0] 31)) ?_); refine (length_calls A f.length c f _ (Kd.C_below HX.out (St.new w _ _).below) hb (Nat.le_trans hN (by decide))).mono ?_; rw [HV.out]; rintro e u0 ⟨rfl, rfl⟩; have S0 := Aside0.mk (St.new w (.slice none 0 0) 0))
    | (go_at_call 70; (with_reducible refine at_m 0 ?_); refine (must_yes (by decide) 0 _).mono ?_; rintro e u1 ⟨rfl, rfl⟩)
    | (go_at_call 70; (with_reducible refine at_m 3 ?_); refine (must_yes (by simp [hn]) 3 _).mono ?_; rintro e u1 ⟨rfl, rfl⟩)
    | (go_at_call 57; refine (clone_calls B _ _ b _ (Kd.C_below HR.out S0.out.below) (by omega)).mono ?_; rintro e w1 ⟨v1, rfl, hO, hB⟩; have c1 := (S0.out.call hB).cb; have c2 := (S0.out.call hB).fb; obtain ⟨B1, d1, rfl, hd1, _⟩ := hO.reads; have hO := S0.out.ownB hO (.slice B1 b.length d1); have hr1 := hO.parts.2; have S1 := Aside0.mk ((S0.out.call hB).setB (.slice B1 b.length d1)); have HO1 := Aside0.mk hO; have HR1 := Aside0.mk hr1; have c3 := S1.out.cb; have c4 := S1.out.ce; have c5 := S1.out.fb; have c6 := S1.out.fe; clear hO hB hr1)
    | (go_at_call 71; refine (packed_calls A f.length c f _ (Kd.C_below HX.out S1.out.below) hb (Nat.le_trans hN (by decide))).mono ?_; rw [hp]; rintro e u2 ⟨rfl, rfl⟩)
    | (go_at_call 72; refine (unpack_calls B1 b.length d1 b X.length _ HR1.out hbb hd1 (by omega)).mono ?_; rw [HU.out]; rintro e w2 ⟨⟨v2, he, hO, hb2⟩, hB⟩; dsimp only at he hO hb2; subst he; obtain ⟨B2, d2, rfl, hd2, _⟩ := hO.reads; have k1 := (S1.out.call hB).cb; have k2 := (S1.out.call hB).fb; have T1 := (S1.out.call hB).setB (.slice B2 X.length d2); have k3 := T1.ce; have k4 := T1.fe; have hO := S1.out.ownE (S1.out.ownB hO (.slice B2 X.length d2)) (.int .i64 0); have hr2 := hO.parts.2; have S2 := Aside0.mk (T1.setE 0); have HO2 := Aside0.mk hO; have HR2 := Aside0.mk hr2; have k5 := S2.out.cb; have k6 := S2.out.ce; have k7 := S2.out.fb; have k8 := S2.out.fe; clear hO hB hr2)
    | (go_at_call 70; (with_reducible refine at_mt 2 ?_); refine (must_true 2 _).mono ?_; rintro e u1 ⟨rfl, rfl⟩))
  have D := Aside0.mk S2.out.drew
  have hcr := crc_lt (s := 0) (by omega) hb2
  have HRd := Aside0.mk (Kd.C_below HR2.out (Below.drew (Below.refl _ _)))
  refine seq_startA 5 [] (.take 0 (.take 3 (.take 4 (.take 5 (.take 6 (.take 7 (.run 1 (.run 2 (.take 8 (.run 9 .done)))))))))) (by kernel_rfl) (by kernel_rfl) (by kernel_rfl) (fun c a t v w ht h => open_put v ht h) ?_
  refine seq_take (v := ?_) (a' := ?_) rfl rfl (by rfl) (fun w' hw' => ?_) ?_ ?_
  rotate_left 2
  · have hq := (D.out.call hw').cb; go_simp
    with_reducible rfl
  · simp only [Act.put, List.setIfInBounds_toArray, List.set_cons_zero, List.set_cons_succ, i64_w, i32_w]
    rfl
  refine seq_take (v := ?_) (a' := ?_) rfl rfl (by rfl) (fun w' hw' => ?_) ?_ ?_
  rotate_left 2
  · go_simp
    with_reducible rfl
  · simp only [Act.put, List.setIfInBounds_toArray, List.set_cons_zero, List.set_cons_succ, i64_w, i32_w]
    rfl
  refine seq_take (v := ?_) (a' := ?_) rfl rfl (by rfl) (fun w' hw' => ?_) ?_ ?_
  rotate_left 2
  · go_simp
    with_reducible rfl
  · simp only [Act.put, List.setIfInBounds_toArray, List.set_cons_zero, List.set_cons_succ, i64_w, i32_w]
    rfl
  refine seq_take (v := ?_) (a' := ?_) rfl rfl (by rfl) (fun w' hw' => ?_) ?_ ?_
  rotate_left 2
  · go_simp
    with_reducible rfl
  · simp only [Act.put, List.setIfInBounds_toArray, List.set_cons_zero, List.set_cons_succ, i64_w, i32_w]
    rfl
  refine seq_take (v := ?_) (a' := ?_) rfl rfl (by rfl) (fun w' hw' => ?_) ?_ ?_
  rotate_left 2
  · go_simp
    with_reducible rfl
  · simp only [Act.put, List.setIfInBounds_toArray, List.set_cons_zero, List.set_cons_succ, i64_w, i32_w]
    rfl
  refine seq_take (v := ?_) (a' := ?_) rfl rfl (by rfl) (fun w' hw' => ?_) ?_ ?_
  rotate_left 2
  · have hq := HWF.out; go_simp
    with_reducible rfl
  · simp only [Act.put, List.setIfInBounds_toArray, List.set_cons_zero, List.set_cons_succ, i64_w, i32_w]
    rfl
  refine seq_run ?_
  refine do_call rfl rfl (by rfl) rfl Tryd.func75 (by kernel_rfl) rfl #[.slice B2 X.length d2] (by simp only [List.map_toArray, List.map_cons, List.map_nil]; rfl) ?_
  with_reducible refine (sum_calls B2 X.length d2 X _ HRd.out hb2).mono ?_
  rintro e w5 ⟨rfl, hB5⟩
  refine ⟨_, ?_, rfl, ?_, fun _ => hB5, ?_⟩
  rotate_left
  · simp only [Act.put, List.setIfInBounds_toArray, List.set_cons_zero, List.set_cons_succ, i64_w, i32_w]
    rfl
  refine seq_run ?_
  refine do_call rfl rfl (by rfl) rfl Tryd.func74 (by kernel_rfl) rfl #[.int .u32 (crc 0 X)] (by simp only [List.map_toArray, List.map_cons, List.map_nil]; rfl) ?_
  with_reducible refine ((number_calls (crc 0 X) (by omega) _)).mono ?_
  rintro e w6 ⟨rfl, rfl⟩
  refine ⟨_, ?_, rfl, ?_, fun _ => below_alloc (Below.refl _ _) _, ?_⟩
  rotate_left
  · simp only [Act.put, List.setIfInBounds_toArray, List.set_cons_zero, List.set_cons_succ, i64_w, i32_w]
    rfl
  have D6 := Aside0.mk ((D.out.call hB5).call (below_alloc (Below.refl _ _) (.cells ((le32 (crc 0 X)).map (Value.int .u8)).toArray 5)))
  have HQ : Aside0 (RdB (w5.alloc (.cells ((le32 (crc 0 X)).map (Value.int .u8)).toArray 5)) (some ⟨w5.heap.size, 0, none⟩) 4 (le32 (crc 0 X))) := ⟨rd_lit2 rfl (le32 (crc 0 X)) _ _ 4 rfl rfl (by simp [le32])⟩
  refine seq_quiet (v := ?_) (a' := ?_) rfl rfl (by rfl) rfl Tryd.func73 (by kernel_rfl) rfl #[.slice (some ⟨w5.heap.size, 0, none⟩) 4 4, .slice C 4 (c - (f.length - 4))] (by simp only [List.map_toArray, List.map_cons, List.map_nil]; rfl) (fun w' hw' => ?_) ?_ ?_
  rotate_left 2
  · with_reducible exact equal_calls (some ⟨w5.heap.size, 0, none⟩) C 4 4 4 (c - (f.length - 4)) (le32 (crc 0 X)) (f.drop (f.length - 4)) w' (Kd.C_below HQ.out hw'.bel) (Kd.C_below HF.out (D6.out.call hw'.bel).below) (le32_bytes _) (hb.drop _)
  · simp only [Act.put, List.setIfInBounds_toArray, List.set_cons_zero, List.set_cons_succ, i64_w, i32_w]
    rfl
  refine seq_run ?_
  refine do_call_panic rfl rfl (by rfl) rfl Tryd.func70 (by kernel_rfl) rfl #[.bool (decide (le32 (crc 0 X) = f.drop (f.length - 4))), .int .i64 7] (by simp only [List.map_toArray, List.map_cons, List.map_nil]; rfl) ?_
  refine (must_no (by simp [HS.out]) 7 _).mono ?_
  rintro e u1 ⟨rfl, rfl⟩
  refine ⟨_, rfl, ?_⟩
  refine open_panics D6.out ?_ ?_ ?_ <;> rfl
set_option maxRecDepth 20000 in
set_option maxHeartbeats 400000 in
theorem open_u3 (A : Option Addr) (N c n : Nat) (f b : List Int) (most : Int) (w : World) (h : RdB w A N f) (hb : Bytes f) (hc : N ≤ c) (hN : N ≤ 549755813888) (hl : lenL f = some n) (hn : (n : Int) ≤ most) (he : midL f 6 (f.length - 4) = b) (hp : packedB f = true) (X : List Int) (hu : unp n b = ⟨X, 0⟩) (ht : n = X.length) (hs : le32 (crc 0 X) = f.drop (f.length - 4)) :
    Calls Tryd.prog 43 #[.slice A N c, .int .i64 most] w fun e w' => UnPost w ⟨X, 0⟩ e w' := by
  obtain rfl : f.length = N := h.1
  have HX := Aside0.mk h
  clear h
  have HV := Aside0.mk (lenL_some hl).2.2.2
  have h10 := (lenL_some hl).1
  have hbb : Bytes b := by rw [← he]; exact Bytes.mid hb _ _
  have hbl : b.length = f.length - 4 - 6 := by rw [← he]; exact midL_len (by omega)
  obtain ⟨B, hcut, hr⟩ : ∃ B, (∀ W : World, (Instr.slice 37 (.slice A f.length c) (some (.int .i64 6)) (some (.int .i64 ((f.length : Int) - 4))) none).run Tryd.prog W = .ok (.slice B b.length (c - 6)) W) ∧ RdB w B b.length b := by
    have hwm := cutMid HX.out hc 6 ((f.length : Int) - 4) (by omega) (by omega) (by omega)
    rw [show ((f.length : Int) - 4).toNat = f.length - 4 by omega, show (6 : Int).toNat = 6 from rfl, he, ← hbl] at hwm
    exact ⟨_, hwm⟩
  have HR := Aside0.mk hr
  have hbl2 : b.length ≤ f.length := by omega
  clear hr he hbl
  obtain ⟨C, hcutF, hrF⟩ : ∃ C, (∀ W : World, (Instr.slice 37 (.slice A f.length c) (some (.int .i64 ((f.length : Int) - 4))) none none).run Tryd.prog W = .ok (.slice C 4 (c - (f.length - 4))) W) ∧ RdB w C 4 (f.drop (f.length - 4)) := by
    have hwm := cutFrom HX.out hc ((f.length : Int) - 4) (by omega) (by omega)
    rw [show ((f.length : Int) - 4).toNat = f.length - 4 by omega, show f.length - (f.length - 4) = 4 by omega] at hwm
    exact ⟨_, hwm⟩
  have HF := Aside0.mk hrF
  have HWF : Aside0 (wrap64 ((f.length : Int) - 4) = (f.length : Int) - 4) := ⟨by unfold wrap64; omega⟩
  clear hrF
  subst ht
  have HU := Aside0.mk hu
  clear hu
  have HS := Aside0.mk hs
  clear hs
  have hmf : ∀ (fn : Fn) (first cap : Array Value) (w : World), (Instr.makeFunc fn first cap).run Tryd.prog w = .ok (.func fn first cap) w := fun _ _ _ _ => rfl
  go_enter_defers Tryd.func43, Tryd.ntmps43
  go_wp2_with (first
    | (go_at_call 69; (with_reducible refine at_cw (World.alloc (World.alloc w (.cells #[.slice none 0 0] 37)) (.cells #[.int .i64 0] 31)) ?_); refine (length_calls A f.length c f _ (Kd.C_below HX.out (St.new w _ _).below) hb (Nat.le_trans hN (by decide))).mono ?_; rw [HV.out]; rintro e u0 ⟨rfl, rfl⟩; have S0 := Aside0.mk (St.new w (.slice none 0 0) 0))
    | (go_at_call 70; (with_reducible refine at_m 0 ?_); refine (must_yes (by decide) 0 _).mono ?_; rintro e u1 ⟨rfl, rfl⟩)
    | (go_at_call 70; (with_reducible refine at_m 3 ?_); refine (must_yes (by simp [hn]) 3 _).mono ?_; rintro e u1 ⟨rfl, rfl⟩)
    | (go_at_call 57; refine (clone_calls B _ _ b _ (Kd.C_below HR.out S0.out.below) (by omega)).mono ?_; rintro e w1 ⟨v1, rfl, hO, hB⟩; have c1 := (S0.out.call hB).cb; have c2 := (S0.out.call hB).fb; obtain ⟨B1, d1, rfl, hd1, _⟩ := hO.reads; have hO := S0.out.ownB hO (.slice B1 b.length d1); have hr1 := hO.parts.2; have S1 := Aside0.mk ((S0.out.call hB).setB (.slice B1 b.length d1)); have HO1 := Aside0.mk hO; have HR1 := Aside0.mk hr1; have c3 := S1.out.cb; have c4 := S1.out.ce; have c5 := S1.out.fb; have c6 := S1.out.fe; clear hO hB hr1)
    | (go_at_call 71; refine (packed_calls A f.length c f _ (Kd.C_below HX.out S1.out.below) hb (Nat.le_trans hN (by decide))).mono ?_; rw [hp]; rintro e u2 ⟨rfl, rfl⟩)
    | (go_at_call 72; refine (unpack_calls B1 b.length d1 b X.length _ HR1.out hbb hd1 (by omega)).mono ?_; rw [HU.out]; rintro e w2 ⟨⟨v2, he, hO, hb2⟩, hB⟩; dsimp only at he hO hb2; subst he; obtain ⟨B2, d2, rfl, hd2, _⟩ := hO.reads; have k1 := (S1.out.call hB).cb; have k2 := (S1.out.call hB).fb; have T1 := (S1.out.call hB).setB (.slice B2 X.length d2); have k3 := T1.ce; have k4 := T1.fe; have hO := S1.out.ownE (S1.out.ownB hO (.slice B2 X.length d2)) (.int .i64 0); have hr2 := hO.parts.2; have S2 := Aside0.mk (T1.setE 0); have HO2 := Aside0.mk hO; have HR2 := Aside0.mk hr2; have k5 := S2.out.cb; have k6 := S2.out.ce; have k7 := S2.out.fb; have k8 := S2.out.fe; clear hO hB hr2)
    | (go_at_call 70; (with_reducible refine at_mt 2 ?_); refine (must_true 2 _).mono ?_; rintro e u1 ⟨rfl, rfl⟩))
  have D := Aside0.mk S2.out.drew
  have hcr := crc_lt (s := 0) (by omega) hb2
  have HRd := Aside0.mk (Kd.C_below HR2.out (Below.drew (Below.refl _ _)))
  refine seq_startA 5 [] (.take 0 (.take 3 (.take 4 (.take 5 (.take 6 (.take 7 (.run 1 (.run 2 (.take 8 (.run 9 .done)))))))))) (by kernel_rfl) (by kernel_rfl) (by kernel_rfl) (fun c a t v w ht h => open_put v ht h) ?_
  refine seq_take (v := ?_) (a' := ?_) rfl rfl (by rfl) (fun w' hw' => ?_) ?_ ?_
  rotate_left 2
  · have hq := (D.out.call hw').cb; go_simp
    with_reducible rfl
  · simp only [Act.put, List.setIfInBounds_toArray, List.set_cons_zero, List.set_cons_succ, i64_w, i32_w]
    rfl
  refine seq_take (v := ?_) (a' := ?_) rfl rfl (by rfl) (fun w' hw' => ?_) ?_ ?_
  rotate_left 2
  · go_simp
    with_reducible rfl
  · simp only [Act.put, List.setIfInBounds_toArray, List.set_cons_zero, List.set_cons_succ, i64_w, i32_w]
    rfl
  refine seq_take (v := ?_) (a' := ?_) rfl rfl (by rfl) (fun w' hw' => ?_) ?_ ?_
  rotate_left 2
  · go_simp
    with_reducible rfl
  · simp only [Act.put, List.setIfInBounds_toArray, List.set_cons_zero, List.set_cons_succ, i64_w, i32_w]
    rfl
  refine seq_take (v := ?_) (a' := ?_) rfl rfl (by rfl) (fun w' hw' => ?_) ?_ ?_
  rotate_left 2
  · go_simp
    with_reducible rfl
  · simp only [Act.put, List.setIfInBounds_toArray, List.set_cons_zero, List.set_cons_succ, i64_w, i32_w]
    rfl
  refine seq_take (v := ?_) (a' := ?_) rfl rfl (by rfl) (fun w' hw' => ?_) ?_ ?_
  rotate_left 2
  · go_simp
    with_reducible rfl
  · simp only [Act.put, List.setIfInBounds_toArray, List.set_cons_zero, List.set_cons_succ, i64_w, i32_w]
    rfl
  refine seq_take (v := ?_) (a' := ?_) rfl rfl (by rfl) (fun w' hw' => ?_) ?_ ?_
  rotate_left 2
  · have hq := HWF.out; go_simp
    with_reducible rfl
  · simp only [Act.put, List.setIfInBounds_toArray, List.set_cons_zero, List.set_cons_succ, i64_w, i32_w]
    rfl
  refine seq_run ?_
  refine do_call rfl rfl (by rfl) rfl Tryd.func75 (by kernel_rfl) rfl #[.slice B2 X.length d2] (by simp only [List.map_toArray, List.map_cons, List.map_nil]; rfl) ?_
  with_reducible refine (sum_calls B2 X.length d2 X _ HRd.out hb2).mono ?_
  rintro e w5 ⟨rfl, hB5⟩
  refine ⟨_, ?_, rfl, ?_, fun _ => hB5, ?_⟩
  rotate_left
  · simp only [Act.put, List.setIfInBounds_toArray, List.set_cons_zero, List.set_cons_succ, i64_w, i32_w]
    rfl
  refine seq_run ?_
  refine do_call rfl rfl (by rfl) rfl Tryd.func74 (by kernel_rfl) rfl #[.int .u32 (crc 0 X)] (by simp only [List.map_toArray, List.map_cons, List.map_nil]; rfl) ?_
  with_reducible refine ((number_calls (crc 0 X) (by omega) _)).mono ?_
  rintro e w6 ⟨rfl, rfl⟩
  refine ⟨_, ?_, rfl, ?_, fun _ => below_alloc (Below.refl _ _) _, ?_⟩
  rotate_left
  · simp only [Act.put, List.setIfInBounds_toArray, List.set_cons_zero, List.set_cons_succ, i64_w, i32_w]
    rfl
  have D6 := Aside0.mk ((D.out.call hB5).call (below_alloc (Below.refl _ _) (.cells ((le32 (crc 0 X)).map (Value.int .u8)).toArray 5)))
  have HQ : Aside0 (RdB (w5.alloc (.cells ((le32 (crc 0 X)).map (Value.int .u8)).toArray 5)) (some ⟨w5.heap.size, 0, none⟩) 4 (le32 (crc 0 X))) := ⟨rd_lit2 rfl (le32 (crc 0 X)) _ _ 4 rfl rfl (by simp [le32])⟩
  refine seq_quiet (v := ?_) (a' := ?_) rfl rfl (by rfl) rfl Tryd.func73 (by kernel_rfl) rfl #[.slice (some ⟨w5.heap.size, 0, none⟩) 4 4, .slice C 4 (c - (f.length - 4))] (by simp only [List.map_toArray, List.map_cons, List.map_nil]; rfl) (fun w' hw' => ?_) ?_ ?_
  rotate_left 2
  · with_reducible exact equal_calls (some ⟨w5.heap.size, 0, none⟩) C 4 4 4 (c - (f.length - 4)) (le32 (crc 0 X)) (f.drop (f.length - 4)) w' (Kd.C_below HQ.out hw'.bel) (Kd.C_below HF.out (D6.out.call hw'.bel).below) (le32_bytes _) (hb.drop _)
  · simp only [Act.put, List.setIfInBounds_toArray, List.set_cons_zero, List.set_cons_succ, i64_w, i32_w]
    rfl
  refine seq_run ?_
  refine do_call rfl rfl (by rfl) rfl Tryd.func70 (by kernel_rfl) rfl #[.bool (decide (le32 (crc 0 X) = f.drop (f.length - 4))), .int .i64 7] (by simp only [List.map_toArray, List.map_cons, List.map_nil]; rfl) ?_
  with_reducible refine (must_yes (by simp [HS.out]) 7 _).mono ?_
  rintro e u1 ⟨rfl, rfl⟩
  refine ⟨_, ?_, rfl, ?_, fun _ => Later.refl _, ?_⟩
  rotate_left
  · simp only [Act.put, List.setIfInBounds_toArray, List.set_cons_zero, List.set_cons_succ, i64_w, i32_w]
    rfl
  refine seq_end ?_
  have f1 := D6.out.cb
  have f2 := D6.out.fb
  have S7 := Aside0.mk (D6.out.setB (.slice B2 X.length d2))
  have f3 := S7.out.ce
  have f4 := S7.out.fe
  go_wp2
  have HOf := Kd.R_lower (S1.out.ownE (S1.out.ownB (OwB.below (OwB.below (OwB.below HO2.out (Below.drew (Below.refl _ _))) hB5) (below_alloc (Below.refl _ _) (.cells ((le32 (crc 0 X)).map (Value.int .u8)).toArray 5))) (.slice B2 X.length d2)) (.int .i64 0)) S1.out.below.size
  refine open_returns (S7.out.setE 0) HOf hb2 ?_ ?_ <;> rfl
theorem open_calls (A : Option Addr) (N c : Nat) (f : List Int) (most : Int) (w : World) (h : RdB w A N f) (hb : Bytes f) (hc : N ≤ c) (hN : N ≤ 549755813888) :
    Calls Tryd.prog 43 #[.slice A N c, .int .i64 most] w fun e w' => UnPost w (openL most f) e w' := by
  unfold openL
  rcases hl : lenL f with _ | n
  · exact open_form A N c f most w h hb hc hN hl
  · dsimp only
    by_cases hn : (n : Int) ≤ most
    · rw [if_neg (by omega)]
      have hpk : packedB f = (rd f 1 == 1) := by unfold packedB; rw [hl]
      by_cases h1 : rd f 1 = 1
      · rw [if_pos h1]
        have hp : packedB f = true := by rw [hpk, h1]; rfl
        rcases hu : unp (n : Int) (midL f 6 (f.length - 4)) with ⟨X, E⟩
        dsimp only
        by_cases hE : E = 0
        · subst hE
          rw [if_neg (by simp)]
          unfold openT
          by_cases ht : X.length = n
          · rw [if_neg (by simp [ht])]
            by_cases hs : le32 (crc 0 X) = f.drop (f.length - 4)
            · rw [if_neg (by simp [hs])]
              exact open_u3 A N c n f _ most w h hb hc hN hl hn rfl hp X hu ht.symm hs
            · rw [if_pos hs]
              exact open_u2 A N c n f _ most w h hb hc hN hl hn rfl hp X hu ht.symm hs
          · rw [if_pos ht]
            exact open_u1 A N c n f _ most w h hb hc hN hl hn rfl hp X hu ht
        · rw [if_pos hE]
          exact open_u0 A N c n f _ most w h hb hc hN hl hn rfl hp X E hu hE
      · rw [if_neg h1]
        have hp : packedB f = false := by rw [hpk]; simp [h1]
        unfold openT
        by_cases ht : (midL f 6 (f.length - 4)).length = n
        · rw [if_neg (by simp [ht])]
          by_cases hs : le32 (crc 0 (midL f 6 (f.length - 4))) = f.drop (f.length - 4)
          · rw [if_neg (by simp [hs])]
            exact open_t2 A N c n f _ most w h hb hc hN hl hn rfl hp ht.symm hs
          · rw [if_pos hs]
            exact open_t1 A N c n f _ most w h hb hc hN hl hn rfl hp ht.symm hs
        · rw [if_pos ht]
          exact open_t0 A N c n f _ most w h hb hc hN hl hn rfl hp ht
    · rw [if_pos (by omega)]
      exact open_range A N c n f most w h hb hc hN hl hn
end Go.Proofs.YtnkkjmbpopodlaaDoor
