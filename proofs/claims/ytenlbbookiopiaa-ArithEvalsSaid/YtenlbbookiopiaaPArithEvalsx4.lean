-- Laid by a program of this session (wip/pp/patch.py over the kit's print).
import Derived.Test.YtenlbbookiopiaaPArithEvalsx0
import Derived.Test.YtenlbbookiopiaaPArithEvalsx1
import Derived.Test.YtenlbbookiopiaaPArithEvalsx2
import Derived.Test.YtenlbbookiopiaaPArithEvalsx3
namespace Go.Proofs.Ytenlbbookiopiaa.PArithEvals
open Go.RowKit Go.Proofs.YtenlbbookiopiaaW.PrintWords Go.Proofs.YtenlbbookiopiaaW.PrintLast Go.Proofs.YtenlbbookiopiaaW.PrintMore
attribute [local go_sem] max2_int min2_int max_two min_two max_three min_three max_four min_four   -- for this text's walks alone
attribute [local go_sem] eqErr25 neErr25 nilErr25
set_option linter.unusedVariables false
set_option linter.unusedSimpArgs false

/-! ### fettleref01_Eval: function 14 -/
def fettleref01_Eval.f (k : Nat) (a0 : Int) (l1 : List Int) : Option (Int × Bool) := if a0 = 2 then (if 0 < (l1.length : Int) then (some (rd l1 0, true)) else (none)) else (if a0 = 14 then (if 0 < (l1.length : Int) then ((fettleref01_add.f k 1 (Go.bits .xor .u64 18446744073709551615 (IntKind.u64.wrap (rd l1 0))) 1).bind fun t150 => (some (wrap64 (t150), true))) else (none)) else (if 0 < (l1.length : Int) then (if 1 < (l1.length : Int) then ((fettleref01_two.f k a0 (rd l1 0) (rd l1 1)).bind fun bt153 => (some (bt153.1, bt153.2))) else (none)) else (none)))
theorem fettleref01_Eval.mono : ∀ a0 a1 k, LeO (fettleref01_Eval.f k a0 a1) (fettleref01_Eval.f (k + 1) a0 a1) := by
  intro a0 a1 k
  unfold fettleref01_Eval.f
  repeat' first
      | (with_reducible exact fettleref01_add.mono _ _ _ _)
      | (with_reducible exact fettleref01_two.mono _ _ _ _)
      | (with_reducible exact LeO.refl _)
      | (with_reducible exact LeO.none _)
      | (with_reducible refine LeO.ite ?_ ?_)
      | (with_reducible refine LeO.bind ?_ (fun _ => ?_))
      | exact fettleref01_add.mono _ _ _ _
      | exact fettleref01_two.mono _ _ _ _
      | exact LeO.none _
      | refine LeO.ite ?_ ?_
      | refine LeO.bind ?_ (fun _ => ?_)
set_option maxHeartbeats 8000000 in
set_option maxRecDepth 100000 in
theorem fettleref01_Eval.calls (k : Nat) (a0 : Int) (A1 : Option Addr) (c1 : Nat) (l1 : List Int) (r1 : Int) (r2 : Bool) (w : World) (hr1 : Kd.C (Kd.int .i64) w A1 l1.length l1) (hc1 : l1.length ≤ c1) (h : fettleref01_Eval.f k a0 l1 = some (r1, r2)) :
    Calls Try.prog 14 #[.int .i64 a0, .slice A1 l1.length c1] w fun e w' => e = .returned (.tuple #[.int .i64 r1, .bool r2]) ∧ Drawn0 w w' := by
  have HR1 := Aside0.mk hr1
  have HC1 := Aside0.mk hc1
  clear hr1 hc1
  have H : (if a0 = 2 then (if 0 < (l1.length : Int) then (some (rd l1 0, true)) else (none)) else (if a0 = 14 then (if 0 < (l1.length : Int) then ((fettleref01_add.f k 1 (Go.bits .xor .u64 18446744073709551615 (IntKind.u64.wrap (rd l1 0))) 1).bind fun t150 => (some (wrap64 (t150), true))) else (none)) else (if 0 < (l1.length : Int) then (if 1 < (l1.length : Int) then ((fettleref01_two.f k a0 (rd l1 0) (rd l1 1)).bind fun bt153 => (some (bt153.1, bt153.2))) else (none)) else (none)))) = some (r1, r2) := h
  clear h
  by_cases c3 : a0 = 2
  · rw [if_pos c3] at H
    have c3b0 : (a0 == 2) = true := beq_iff_eq.mpr c3
    have c3b1 : (a0 != 2) = false := bne_eq_false_iff_eq.mpr c3
    clear c3
    by_cases c4 : 0 < (l1.length : Int)
    · rw [if_pos c4] at H
      have c4b0 : decide (0 < (l1.length : Int)) = true := decide_eq_true c4
      have c4b1 : decide (0 < l1.length) = true := decide_eq_true (by omega)
      clear c4
      simp only [Option.some.injEq, Prod.mk.injEq] at H
      obtain ⟨rfl, rfl⟩ := H
      have p148 : 0 ≤ (0 : Int) := (by omega)
      have q148 : 0 < (l1.length : Int) := of_decide_eq_true (by first | (with_reducible assumption) | assumption)
      obtain ⟨ad148, e148, hx148_0⟩ := Kd.at_int HR1.out 0 p148 q148
      cases e148
      have qi148 : (0 < l1.length) = True := eq_true (by omega)
      (try rw [show ((0 : Int)).toNat = 0 from rfl] at hx148_0)
      (try rw [Addr.add_zero'] at hx148_0)
      replace p148 := eq_true p148
      replace q148 := eq_true q148
      go_enter Try.func14, Try.ntmps14
      go_wp2
      repeat (go_quiet (fail); try go_wp2)
      go_ret2
      exact ⟨by first | rfl | (simp; done) | (simp [*]; done) | (simp [show Go.RowKit.wrap64 0 = 0 by unfold Go.RowKit.wrap64; decide]; done), by repeat (first | exact Drawn0.refl _ | apply Drawn0.step)⟩
    · rw [if_neg c4] at H
      exact absurd H (by simp)
  · rw [if_neg c3] at H
    have c3b0 : (a0 == 2) = false := beq_eq_false_iff_ne.mpr c3
    have c3b1 : (a0 != 2) = true := bne_iff_ne.mpr c3
    by_cases c5 : a0 = 14
    · rw [if_pos c5] at H
      have c5b0 : (a0 == 14) = true := beq_iff_eq.mpr c5
      have c5b1 : (a0 != 14) = false := bne_eq_false_iff_eq.mpr c5
      clear c5
      by_cases c6 : 0 < (l1.length : Int)
      · rw [if_pos c6] at H
        have c6b0 : decide (0 < (l1.length : Int)) = true := decide_eq_true c6
        have c6b1 : decide (0 < l1.length) = true := decide_eq_true (by omega)
        clear c6
        replace H := Option.bind_eq_some_iff.mp H
        obtain ⟨t150, A70, H⟩ := H
        replace H : (some (wrap64 (t150), true)) = some (r1, r2) := H
        have A7 := Aside0.mk A70
        clear A70
        simp only [Option.some.injEq, Prod.mk.injEq] at H
        obtain ⟨rfl, rfl⟩ := H
        have p149 : 0 ≤ (0 : Int) := (by omega)
        have q149 : 0 < (l1.length : Int) := of_decide_eq_true (by first | (with_reducible assumption) | assumption)
        obtain ⟨ad149, e149, hx149_0⟩ := Kd.at_int HR1.out 0 p149 q149
        cases e149
        have qi149 : (0 < l1.length) = True := eq_true (by omega)
        (try rw [show ((0 : Int)).toNat = 0 from rfl] at hx149_0)
        (try rw [Addr.add_zero'] at hx149_0)
        replace p149 := eq_true p149
        replace q149 := eq_true q149
        replace A7 : Aside0 (fettleref01_add.f k 1 (Go.bits .xor .u64 IntKind.u64.max (IntKind.u64.wrap (rd l1 0))) 1 = some t150) := ⟨by have h_ := A7.out; rw [show (18446744073709551615 : Int) = IntKind.u64.max from rfl] at h_; exact h_⟩
        go_enter Try.func14, Try.ntmps14
        go_wp2_with (first | (go_at_call 19; (with_reducible refine (fettleref01_add.calls k 1 (Go.bits .xor .u64 IntKind.u64.max (IntKind.u64.wrap (rd l1 0))) 1 t150 _ A7.out).mono ?_); rintro e w' ⟨rfl, ⟨nd, rfl⟩⟩; (try first | exact ⟨rfl, _, World.drewN_drewN _ _ _⟩ | exact ⟨rfl, _, Eq.trans (World.drewN_drewN _ _ _) (congrArg (World.drewN _) (Nat.add_assoc _ _ _))⟩)))
        repeat (go_quiet (first | (go_at_call 19; (with_reducible refine (fettleref01_add.calls k 1 (Go.bits .xor .u64 IntKind.u64.max (IntKind.u64.wrap (rd l1 0))) 1 t150 _ A7.out).mono ?_); rintro e w' ⟨rfl, ⟨nd, rfl⟩⟩; (try first | exact ⟨rfl, _, World.drewN_drewN _ _ _⟩ | exact ⟨rfl, _, Eq.trans (World.drewN_drewN _ _ _) (congrArg (World.drewN _) (Nat.add_assoc _ _ _))⟩))); try go_wp2_with (first | (go_at_call 19; (with_reducible refine (fettleref01_add.calls k 1 (Go.bits .xor .u64 IntKind.u64.max (IntKind.u64.wrap (rd l1 0))) 1 t150 _ A7.out).mono ?_); rintro e w' ⟨rfl, ⟨nd, rfl⟩⟩; (try first | exact ⟨rfl, _, World.drewN_drewN _ _ _⟩ | exact ⟨rfl, _, Eq.trans (World.drewN_drewN _ _ _) (congrArg (World.drewN _) (Nat.add_assoc _ _ _))⟩))))
        go_ret2
        exact ⟨by first | rfl | (simp; done) | (simp [*]; done) | (simp [show Go.RowKit.wrap64 0 = 0 by unfold Go.RowKit.wrap64; decide]; done), by repeat (first | exact Drawn0.refl _ | apply Drawn0.step)⟩
      · rw [if_neg c6] at H
        exact absurd H (by simp)
    · rw [if_neg c5] at H
      have c5b0 : (a0 == 14) = false := beq_eq_false_iff_ne.mpr c5
      have c5b1 : (a0 != 14) = true := bne_iff_ne.mpr c5
      by_cases c8 : 0 < (l1.length : Int)
      · rw [if_pos c8] at H
        have c8b0 : decide (0 < (l1.length : Int)) = true := decide_eq_true c8
        have c8b1 : decide (0 < l1.length) = true := decide_eq_true (by omega)
        clear c8
        by_cases c9 : 1 < (l1.length : Int)
        · rw [if_pos c9] at H
          have c9b0 : decide (1 < (l1.length : Int)) = true := decide_eq_true c9
          have c9b1 : decide (1 < l1.length) = true := decide_eq_true (by omega)
          clear c9
          replace H := Option.bind_eq_some_iff.mp H
          obtain ⟨⟨t153, t154⟩, A100, H⟩ := H
          replace H : (some (t153, t154)) = some (r1, r2) := H
          have A10 := Aside0.mk A100
          clear A100
          simp only [Option.some.injEq, Prod.mk.injEq] at H
          obtain ⟨rfl, rfl⟩ := H
          have p151 : 0 ≤ (0 : Int) := (by omega)
          have q151 : 0 < (l1.length : Int) := of_decide_eq_true (by first | (with_reducible assumption) | assumption)
          obtain ⟨ad151, e151, hx151_0⟩ := Kd.at_int HR1.out 0 p151 q151
          cases e151
          have qi151 : (0 < l1.length) = True := eq_true (by omega)
          (try rw [show ((0 : Int)).toNat = 0 from rfl] at hx151_0)
          (try rw [Addr.add_zero'] at hx151_0)
          replace p151 := eq_true p151
          replace q151 := eq_true q151
          have p152 : 0 ≤ (1 : Int) := (by omega)
          have q152 : 1 < (l1.length : Int) := of_decide_eq_true (by first | (with_reducible assumption) | assumption)
          obtain ⟨ad152, e152, hx152_0⟩ := Kd.at_int HR1.out 1 p152 q152
          obtain rfl : ad151 = ad152 := (by injection e152)
          (try simp only [show (1 : Int).toNat = 1 from rfl, Nat.reduceMul, Nat.reduceEqDiff, Go.Addr.add, ↓reduceIte] at hx152_0)
          have qi152 : (1 < l1.length) = True := eq_true (by omega)
          (try rw [show ((1 : Int)).toNat = 1 from rfl] at hx152_0)
          replace p152 := eq_true p152
          replace q152 := eq_true q152
          go_enter Try.func14, Try.ntmps14
          go_wp2_with (first | (go_at_call 20; (with_reducible refine (fettleref01_two.calls k a0 (rd l1 0) (rd l1 1) t153 t154 _ A10.out).mono ?_); rintro e w' ⟨rfl, ⟨nd, rfl⟩⟩; (try first | exact ⟨rfl, _, World.drewN_drewN _ _ _⟩ | exact ⟨rfl, _, Eq.trans (World.drewN_drewN _ _ _) (congrArg (World.drewN _) (Nat.add_assoc _ _ _))⟩)))
          repeat (go_quiet (first | (go_at_call 20; (with_reducible refine (fettleref01_two.calls k a0 (rd l1 0) (rd l1 1) t153 t154 _ A10.out).mono ?_); rintro e w' ⟨rfl, ⟨nd, rfl⟩⟩; (try first | exact ⟨rfl, _, World.drewN_drewN _ _ _⟩ | exact ⟨rfl, _, Eq.trans (World.drewN_drewN _ _ _) (congrArg (World.drewN _) (Nat.add_assoc _ _ _))⟩))); try go_wp2_with (first | (go_at_call 20; (with_reducible refine (fettleref01_two.calls k a0 (rd l1 0) (rd l1 1) t153 t154 _ A10.out).mono ?_); rintro e w' ⟨rfl, ⟨nd, rfl⟩⟩; (try first | exact ⟨rfl, _, World.drewN_drewN _ _ _⟩ | exact ⟨rfl, _, Eq.trans (World.drewN_drewN _ _ _) (congrArg (World.drewN _) (Nat.add_assoc _ _ _))⟩))))
          go_ret2
          exact ⟨by first | rfl | (simp; done) | (simp [*]; done) | (simp [show Go.RowKit.wrap64 0 = 0 by unfold Go.RowKit.wrap64; decide]; done), by repeat (first | exact Drawn0.refl _ | apply Drawn0.step)⟩
        · rw [if_neg c9] at H
          exact absurd H (by simp)
      · rw [if_neg c8] at H
        exact absurd H (by simp)

/-! ### fettlelaw01_ArithEvals: function 3 -/
def fettlelaw01_ArithEvals.j0 : Nat → Int → List Int → Bool → Int → Option Int → Bool → Option (Bool)
  | 0, _, _, _, _, _, _ => none
  | k + 1, x0, x1, x5, x6, x7, x31 => if x31 = true then (if x5 = true then (if x7.isNone = true then (some false) else (if (x7.getD 0) = 1 then (some (x6 == 0)) else (some false))) else (some false)) else ((fettleref01_Eval.f k x0 x1).bind fun bt160 => (if bt160.2 = true then (if x5 = true then (if x7.isNone = true then (some (x6 == bt160.1)) else (some false)) else (some false)) else (if x5 = true then (if x7.isNone = true then (some false) else (if (x7.getD 0) = 7 then (some (x6 == 0)) else (some false))) else (some false))))
def fettlelaw01_ArithEvals.f (k : Nat) (a0 : Int) (l1 : List Int) : Option (Bool) := (fettlelaw01_up.f k).bind fun t155 => (if (l1.length : Int) > 100 then (some t155) else ((arith_Eval.f k a0 l1).bind fun bt156 => ((fettleref01_Args.f k a0).bind fun t158 => (if t158 < 0 then (fettlelaw01_ArithEvals.j0 k a0 l1 t155 bt156.1 bt156.2 true) else (fettlelaw01_ArithEvals.j0 k a0 l1 t155 bt156.1 bt156.2 (t158 != (l1.length : Int)))))))
theorem fettlelaw01_ArithEvals.mono_l : ∀ k, (∀ y0 y1 y2 y3 y4 y5, LeO (fettlelaw01_ArithEvals.j0 k y0 y1 y2 y3 y4 y5) (fettlelaw01_ArithEvals.j0 (k + 1) y0 y1 y2 y3 y4 y5))
  | 0 => fun _ _ _ _ _ _ r h => by simp [fettlelaw01_ArithEvals.j0] at h
  | k + 1 => by
    have ih0 := fettlelaw01_ArithEvals.mono_l k
    · intro y0 y1 y2 y3 y4 y5
      unfold fettlelaw01_ArithEvals.j0
      repeat' first
      | (with_reducible exact ih0 _ _ _ _ _ _)
      | (with_reducible exact arith_Eval.mono _ _ _)
      | (with_reducible exact fettlelaw01_up.mono _)
      | (with_reducible exact fettleref01_Args.mono _ _)
      | (with_reducible exact fettleref01_Eval.mono _ _ _)
      | (with_reducible exact LeO.refl _)
      | (with_reducible exact LeO.none _)
      | (with_reducible refine LeO.ite ?_ ?_)
      | (with_reducible refine LeO.bind ?_ (fun _ => ?_))
      | exact ih0 _ _ _ _ _ _
      | exact arith_Eval.mono _ _ _
      | exact fettlelaw01_up.mono _
      | exact fettleref01_Args.mono _ _
      | exact fettleref01_Eval.mono _ _ _
      | exact LeO.none _
      | refine LeO.ite ?_ ?_
      | refine LeO.bind ?_ (fun _ => ?_)
theorem fettlelaw01_ArithEvals.mono : ∀ a0 a1 k, LeO (fettlelaw01_ArithEvals.f k a0 a1) (fettlelaw01_ArithEvals.f (k + 1) a0 a1) := by
  intro a0 a1 k
  have ih0 := fettlelaw01_ArithEvals.mono_l k
  unfold fettlelaw01_ArithEvals.f
  repeat' first
      | (with_reducible exact ih0 _ _ _ _ _ _)
      | (with_reducible exact arith_Eval.mono _ _ _)
      | (with_reducible exact fettlelaw01_up.mono _)
      | (with_reducible exact fettleref01_Args.mono _ _)
      | (with_reducible exact fettleref01_Eval.mono _ _ _)
      | (with_reducible exact LeO.refl _)
      | (with_reducible exact LeO.none _)
      | (with_reducible refine LeO.ite ?_ ?_)
      | (with_reducible refine LeO.bind ?_ (fun _ => ?_))
      | exact ih0 _ _ _ _ _ _
      | exact arith_Eval.mono _ _ _
      | exact fettlelaw01_up.mono _
      | exact fettleref01_Args.mono _ _
      | exact fettleref01_Eval.mono _ _ _
      | exact LeO.none _
      | refine LeO.ite ?_ ?_
      | refine LeO.bind ?_ (fun _ => ?_)
set_option maxHeartbeats 8000000 in
set_option maxRecDepth 100000 in
theorem fettlelaw01_ArithEvals.calls (k : Nat) (a0 : Int) (A1 : Option Addr) (c1 : Nat) (l1 : List Int) (r : Bool) (w : World) (hr1 : Kd.C (Kd.int .i64) w A1 l1.length l1) (hc1 : l1.length ≤ c1) (h : fettlelaw01_ArithEvals.f k a0 l1 = some r) :
    Calls Try.prog 3 #[.int .i64 a0, .slice A1 l1.length c1] w fun e w' => e = .returned (.bool r) ∧ Below w.heap.size w w' := by
  have hu25 := Try.underlying25
  have hu29 := Try.underlying29
  have HR1 := Aside0.mk hr1
  have HC1 := Aside0.mk hc1
  clear hr1 hc1
  have HB := Aside0.mk (Below.refl w.heap.size w)
  have H : ((fettlelaw01_up.f k).bind fun t155 => (if (l1.length : Int) > 100 then (some t155) else ((arith_Eval.f k a0 l1).bind fun bt156 => ((fettleref01_Args.f k a0).bind fun t158 => (if t158 < 0 then (fettlelaw01_ArithEvals.j0 k a0 l1 t155 bt156.1 bt156.2 true) else (fettlelaw01_ArithEvals.j0 k a0 l1 t155 bt156.1 bt156.2 (t158 != (l1.length : Int)))))))) = some r := h
  clear h
  replace H := Option.bind_eq_some_iff.mp H
  obtain ⟨t155, A30, H⟩ := H
  replace H : (if (l1.length : Int) > 100 then (some t155) else ((arith_Eval.f k a0 l1).bind fun bt156 => ((fettleref01_Args.f k a0).bind fun t158 => (if t158 < 0 then (fettlelaw01_ArithEvals.j0 k a0 l1 t155 bt156.1 bt156.2 true) else (fettlelaw01_ArithEvals.j0 k a0 l1 t155 bt156.1 bt156.2 (t158 != (l1.length : Int))))))) = some r := H
  have A3 := Aside0.mk A30
  clear A30
  by_cases c4 : (l1.length : Int) > 100
  · rw [if_pos c4] at H
    have c4b0 : decide (100 < (l1.length : Int)) = true := decide_eq_true c4
    have c4b1 : decide (100 < l1.length) = true := decide_eq_true (by omega)
    clear c4
    obtain rfl := Option.some.inj H
    go_enter Try.func3, Try.ntmps3
    go_wp2_with (first | ((with_reducible refine gate_callee (f := 11) rfl ?_); refine goesL_ (some 11) rfl rfl Try.func11 (by kernel_rfl) rfl #[] rfl (by (try simp only [List.map_toArray, List.map_cons, List.map_nil]); first | done | rfl | (simp only [List.length_drop, List.length_take]; rfl)) ?_; (with_reducible refine (fettlelaw01_up.calls k  t155 _ A3.out).mono ?_); rintro e w5 ⟨rfl, hb⟩; refine ⟨_, rfl, ?_⟩; have n0_ := Aside0.mk (below_step (by repeat (first | (with_reducible first | exact HB.out | apply below_alloc | apply pw_below_drewN | apply below_drew1) | exact HB.out)) hb); clear HB; have HB := n0_; clear n0_; (try clear hb); (try clear hb2); (try clear hk); (try clear hi)))
    go_ret
    exact ⟨by first | rfl | (simp [errW_none, errW_some] <;> rfl) | (simp [*, errW_none, errW_some] <;> rfl), by repeat (first | (with_reducible first | exact HB.out | apply below_alloc | apply pw_below_drewN | apply below_drew1) | exact HB.out)⟩
  · rw [if_neg c4] at H
    have c4b0 : decide (100 < (l1.length : Int)) = false := decide_eq_false c4
    have c4b1 : decide (100 < l1.length) = false := decide_eq_false (by omega)
    clear c4
    replace H := Option.bind_eq_some_iff.mp H
    obtain ⟨⟨t156, t157⟩, A60, H⟩ := H
    replace H : ((fettleref01_Args.f k a0).bind fun t158 => (if t158 < 0 then (fettlelaw01_ArithEvals.j0 k a0 l1 t155 t156 t157 true) else (fettlelaw01_ArithEvals.j0 k a0 l1 t155 t156 t157 (t158 != (l1.length : Int))))) = some r := H
    have A6 := Aside0.mk A60
    clear A60
    replace H := Option.bind_eq_some_iff.mp H
    obtain ⟨t158, A70, H⟩ := H
    replace H : (if t158 < 0 then (fettlelaw01_ArithEvals.j0 k a0 l1 t155 t156 t157 true) else (fettlelaw01_ArithEvals.j0 k a0 l1 t155 t156 t157 (t158 != (l1.length : Int)))) = some r := H
    have A7 := Aside0.mk A70
    clear A70
    have HC8 := Aside0.mk H
    clear H
    go_enter Try.func3, Try.ntmps3
    go_upto_region 6 with (first | ((with_reducible refine gate_callee (f := 11) rfl ?_); refine goesL_ (some 11) rfl rfl Try.func11 (by kernel_rfl) rfl #[] rfl (by (try simp only [List.map_toArray, List.map_cons, List.map_nil]); first | done | rfl | (simp only [List.length_drop, List.length_take]; rfl)) ?_; (with_reducible refine (fettlelaw01_up.calls k  t155 _ A3.out).mono ?_); rintro e w9 ⟨rfl, hb⟩; refine ⟨_, rfl, ?_⟩; have n0_ := Aside0.mk (below_step (by repeat (first | (with_reducible first | exact HB.out | apply below_alloc | apply pw_below_drewN | apply below_drew1) | exact HB.out)) hb); clear HB; have HB := n0_; clear n0_; (try clear hb); (try clear hb2); (try clear hk); (try clear hi)) | ((with_reducible refine gate_callee (f := 12) rfl ?_); refine goesL_ (some 19) rfl rfl Try.func12 (by kernel_rfl) rfl #[.int .i64 a0, .slice A1 l1.length c1] rfl (by (try simp only [List.map_toArray, List.map_cons, List.map_nil]); first | done | rfl | (simp only [List.length_drop, List.length_take]; rfl)) ?_; (with_reducible refine (arith_Eval.calls k a0 _ _ l1 t156 t157 _ ?side1 ?side2 A6.out).mono ?_); (case side1 => repeat (first | exact (Kd.C_below HR1.out HB.out) | (with_reducible refine Kd.C_alloc ?_ _) | (with_reducible refine Kd.C_drewN ?_ _) | (with_reducible refine Kd.C_drew ?_))); (case side2 => exact HC1.out); rintro e w' ⟨rfl, ⟨nd, rfl⟩⟩; refine ⟨_, rfl, ?_⟩; (try simp only [errW_none, errW_some])) | ((with_reducible refine gate_callee (f := 13) rfl ?_); refine goesL_ (some 23) rfl rfl Try.func13 (by kernel_rfl) rfl #[.int .i64 a0] rfl (by (try simp only [List.map_toArray, List.map_cons, List.map_nil]); first | done | rfl | (simp only [List.length_drop, List.length_take]; rfl)) ?_; (with_reducible refine (fettleref01_Args.calls k a0 t158 _ A7.out).mono ?_); rintro e w' ⟨rfl, ⟨nd, rfl⟩⟩; refine ⟨_, rfl, ?_⟩))
    (try simp only [Act.put, List.setIfInBounds_toArray, List.set_cons_zero, List.set_cons_succ])
    go_cut [31] (fun v31 wc => ∃ (kq : Nat) (x31_7 : Bool), v31 = .bool x31_7 ∧ Aside0 (fettlelaw01_ArithEvals.j0 kq a0 l1 t155 t156 t157 x31_7 = some r) ∧ Aside0 (kq ≤ k) ∧ Aside0 (Below w.heap.size w wc))
    case first =>
      have H := HC8.out
      clear HC8
      by_cases c10 : t158 < 0
      · rw [if_pos c10] at H
        have c10b0 : decide (t158 < 0) = true := decide_eq_true c10
        clear c10
        (first | rw [c10b0] | (simp only [i64_w, i32_w]; rw [c10b0]) | skip)
        have H' := Aside0.mk H
        clear H
        go_wp2
        go_meet
        case rel => exact ⟨_, (true), (by first | rfl | (simp; done) | (simp [*]; done)), H', ⟨by first | omega | exact Nat.le_refl _⟩, ⟨by repeat (first | (with_reducible first | exact HB.out | apply below_alloc | apply pw_below_drewN | apply below_drew1) | exact HB.out)⟩⟩
      · rw [if_neg c10] at H
        have c10b0 : decide (t158 < 0) = false := decide_eq_false c10
        clear c10
        (first | rw [c10b0] | (simp only [i64_w, i32_w]; rw [c10b0]) | skip)
        have H' := Aside0.mk H
        clear H
        go_wp2
        go_meet
        case rel => exact ⟨_, ((t158 != (l1.length : Int))), (by first | rfl | (simp; done) | (simp [*]; done)), H', ⟨by first | omega | exact Nat.le_refl _⟩, ⟨by repeat (first | (with_reducible first | exact HB.out | apply below_alloc | apply pw_below_drewN | apply below_drew1) | exact HB.out)⟩⟩
    case rest =>
      clear HC8
      try clear c1
      try clear p2
      try clear c3
      try clear c4
      try clear c4b0
      try clear c4b1
      try clear c10
      try clear c10b0
      obtain ⟨kq, x31_7, rfl, HA, HJ7, HB⟩ := hcut
      cases kq with
      | zero => exact absurd HA.out (by simp [fettlelaw01_ArithEvals.j0])
      | succ kj7 =>
        have H := HA.out
        clear HA
        simp only [fettlelaw01_ArithEvals.j0] at H
        by_cases c11 : x31_7 = true
        · subst c11
          have H1 : (if t155 = true then (if t157.isNone = true then (some false) else (if (t157.getD 0) = 1 then (some (t156 == 0)) else (some false))) else (some false)) = some r := by rw [if_pos rfl] at H; exact H
          clear H
          have H := H1
          clear H1
          by_cases c12 : t155 = true
          · subst c12
            have H1 : (if t157.isNone = true then (some false) else (if (t157.getD 0) = 1 then (some (t156 == 0)) else (some false))) = some r := by rw [if_pos rfl] at H; exact H
            clear H
            have H := H1
            clear H1
            rcases t157 with _ | q159
            · have H1 : (some false) = some r := by rw [if_pos (show (none : Option Int).isNone = true by rfl)] at H; exact H
              clear H
              have H := H1
              clear H1
              try simp only [errW_none, errW_some]
              obtain rfl := Option.some.inj H
              go_wp2
              go_ret
              exact ⟨by first | rfl | (simp [errW_none, errW_some] <;> rfl) | (simp [*, errW_none, errW_some] <;> rfl), by repeat (first | (with_reducible first | exact HB.out | apply below_alloc | apply pw_below_drewN | apply below_drew1) | exact HB.out)⟩
            · have H1 : (if q159 = 1 then (some (t156 == 0)) else (some false)) = some r := by rw [if_neg (show ¬ (some q159).isNone = true by simp)] at H; exact H
              clear H
              have H := H1
              clear H1
              try simp only [errW_none, errW_some]
              by_cases c13 : q159 = 1
              · rw [if_pos c13] at H
                have c13b0 : (q159 == 1) = true := beq_iff_eq.mpr c13
                have c13b1 : (q159 != 1) = false := bne_eq_false_iff_eq.mpr c13
                clear c13
                obtain rfl := Option.some.inj H
                go_wp2
                go_ret
                exact ⟨by first | rfl | (simp [errW_none, errW_some] <;> rfl) | (simp [*, errW_none, errW_some] <;> rfl), by repeat (first | (with_reducible first | exact HB.out | apply below_alloc | apply pw_below_drewN | apply below_drew1) | exact HB.out)⟩
              · rw [if_neg c13] at H
                have c13b0 : (q159 == 1) = false := beq_eq_false_iff_ne.mpr c13
                have c13b1 : (q159 != 1) = true := bne_iff_ne.mpr c13
                obtain rfl := Option.some.inj H
                go_wp2
                go_ret
                exact ⟨by first | rfl | (simp [errW_none, errW_some] <;> rfl) | (simp [*, errW_none, errW_some] <;> rfl), by repeat (first | (with_reducible first | exact HB.out | apply below_alloc | apply pw_below_drewN | apply below_drew1) | exact HB.out)⟩
          · replace c12 := Bool.eq_false_iff.mpr c12
            subst c12
            have H1 : (some false) = some r := by rw [if_neg (show ¬ (false = true) by decide)] at H; exact H
            clear H
            have H := H1
            clear H1
            obtain rfl := Option.some.inj H
            go_wp2
            go_ret
            exact ⟨by first | rfl | (simp [errW_none, errW_some] <;> rfl) | (simp [*, errW_none, errW_some] <;> rfl), by repeat (first | (with_reducible first | exact HB.out | apply below_alloc | apply pw_below_drewN | apply below_drew1) | exact HB.out)⟩
        · replace c11 := Bool.eq_false_iff.mpr c11
          subst c11
          have H1 : ((fettleref01_Eval.f kj7 a0 l1).bind fun bt160 => (if bt160.2 = true then (if t155 = true then (if t157.isNone = true then (some (t156 == bt160.1)) else (some false)) else (some false)) else (if t155 = true then (if t157.isNone = true then (some false) else (if (t157.getD 0) = 7 then (some (t156 == 0)) else (some false))) else (some false)))) = some r := by rw [if_neg (show ¬ (false = true) by decide)] at H; exact H
          clear H
          have H := H1
          clear H1
          replace H := Option.bind_eq_some_iff.mp H
          obtain ⟨⟨t160, t161⟩, A140, H⟩ := H
          replace H : (if t161 = true then (if t155 = true then (if t157.isNone = true then (some (t156 == t160)) else (some false)) else (some false)) else (if t155 = true then (if t157.isNone = true then (some false) else (if (t157.getD 0) = 7 then (some (t156 == 0)) else (some false))) else (some false))) = some r := H
          have A14 := Aside0.mk A140
          clear A140
          by_cases c15 : t161 = true
          · subst c15
            have H1 : (if t155 = true then (if t157.isNone = true then (some (t156 == t160)) else (some false)) else (some false)) = some r := by rw [if_pos rfl] at H; exact H
            clear H
            have H := H1
            clear H1
            by_cases c16 : t155 = true
            · subst c16
              have H1 : (if t157.isNone = true then (some (t156 == t160)) else (some false)) = some r := by rw [if_pos rfl] at H; exact H
              clear H
              have H := H1
              clear H1
              rcases t157 with _ | q162
              · have H1 : (some (t156 == t160)) = some r := by rw [if_pos (show (none : Option Int).isNone = true by rfl)] at H; exact H
                clear H
                have H := H1
                clear H1
                try simp only [errW_none, errW_some]
                obtain rfl := Option.some.inj H
                go_wp2_with (first | ((with_reducible refine gate_callee (f := 14) rfl ?_); refine goesL_ (some 45) rfl rfl Try.func14 (by kernel_rfl) rfl #[.int .i64 a0, .slice A1 l1.length c1] rfl (by (try simp only [List.map_toArray, List.map_cons, List.map_nil]); first | done | rfl | (simp only [List.length_drop, List.length_take]; rfl)) ?_; (with_reducible refine (fettleref01_Eval.calls kj7 a0 _ _ l1 t160 true _ ?side1 ?side2 A14.out).mono ?_); (case side1 => repeat (first | exact (Kd.C_below HR1.out HB.out) | (with_reducible refine Kd.C_alloc ?_ _) | (with_reducible refine Kd.C_drewN ?_ _) | (with_reducible refine Kd.C_drew ?_))); (case side2 => exact HC1.out); rintro e w' ⟨rfl, ⟨nd, rfl⟩⟩; refine ⟨_, rfl, ?_⟩))
                go_ret
                exact ⟨by first | rfl | (simp [errW_none, errW_some] <;> rfl) | (simp [*, errW_none, errW_some] <;> rfl), by repeat (first | (with_reducible first | exact HB.out | apply below_alloc | apply pw_below_drewN | apply below_drew1) | exact HB.out)⟩
              · have H1 : (some false) = some r := by rw [if_neg (show ¬ (some q162).isNone = true by simp)] at H; exact H
                clear H
                have H := H1
                clear H1
                try simp only [errW_none, errW_some]
                obtain rfl := Option.some.inj H
                go_wp2_with (first | ((with_reducible refine gate_callee (f := 14) rfl ?_); refine goesL_ (some 45) rfl rfl Try.func14 (by kernel_rfl) rfl #[.int .i64 a0, .slice A1 l1.length c1] rfl (by (try simp only [List.map_toArray, List.map_cons, List.map_nil]); first | done | rfl | (simp only [List.length_drop, List.length_take]; rfl)) ?_; (with_reducible refine (fettleref01_Eval.calls kj7 a0 _ _ l1 t160 true _ ?side1 ?side2 A14.out).mono ?_); (case side1 => repeat (first | exact (Kd.C_below HR1.out HB.out) | (with_reducible refine Kd.C_alloc ?_ _) | (with_reducible refine Kd.C_drewN ?_ _) | (with_reducible refine Kd.C_drew ?_))); (case side2 => exact HC1.out); rintro e w' ⟨rfl, ⟨nd, rfl⟩⟩; refine ⟨_, rfl, ?_⟩))
                go_ret
                exact ⟨by first | rfl | (simp [errW_none, errW_some] <;> rfl) | (simp [*, errW_none, errW_some] <;> rfl), by repeat (first | (with_reducible first | exact HB.out | apply below_alloc | apply pw_below_drewN | apply below_drew1) | exact HB.out)⟩
            · replace c16 := Bool.eq_false_iff.mpr c16
              subst c16
              have H1 : (some false) = some r := by rw [if_neg (show ¬ (false = true) by decide)] at H; exact H
              clear H
              have H := H1
              clear H1
              obtain rfl := Option.some.inj H
              go_wp2_with (first | ((with_reducible refine gate_callee (f := 14) rfl ?_); refine goesL_ (some 45) rfl rfl Try.func14 (by kernel_rfl) rfl #[.int .i64 a0, .slice A1 l1.length c1] rfl (by (try simp only [List.map_toArray, List.map_cons, List.map_nil]); first | done | rfl | (simp only [List.length_drop, List.length_take]; rfl)) ?_; (with_reducible refine (fettleref01_Eval.calls kj7 a0 _ _ l1 t160 true _ ?side1 ?side2 A14.out).mono ?_); (case side1 => repeat (first | exact (Kd.C_below HR1.out HB.out) | (with_reducible refine Kd.C_alloc ?_ _) | (with_reducible refine Kd.C_drewN ?_ _) | (with_reducible refine Kd.C_drew ?_))); (case side2 => exact HC1.out); rintro e w' ⟨rfl, ⟨nd, rfl⟩⟩; refine ⟨_, rfl, ?_⟩))
              go_ret
              exact ⟨by first | rfl | (simp [errW_none, errW_some] <;> rfl) | (simp [*, errW_none, errW_some] <;> rfl), by repeat (first | (with_reducible first | exact HB.out | apply below_alloc | apply pw_below_drewN | apply below_drew1) | exact HB.out)⟩
          · replace c15 := Bool.eq_false_iff.mpr c15
            subst c15
            have H1 : (if t155 = true then (if t157.isNone = true then (some false) else (if (t157.getD 0) = 7 then (some (t156 == 0)) else (some false))) else (some false)) = some r := by rw [if_neg (show ¬ (false = true) by decide)] at H; exact H
            clear H
            have H := H1
            clear H1
            by_cases c17 : t155 = true
            · subst c17
              have H1 : (if t157.isNone = true then (some false) else (if (t157.getD 0) = 7 then (some (t156 == 0)) else (some false))) = some r := by rw [if_pos rfl] at H; exact H
              clear H
              have H := H1
              clear H1
              rcases t157 with _ | q163
              · have H1 : (some false) = some r := by rw [if_pos (show (none : Option Int).isNone = true by rfl)] at H; exact H
                clear H
                have H := H1
                clear H1
                try simp only [errW_none, errW_some]
                obtain rfl := Option.some.inj H
                go_wp2_with (first | ((with_reducible refine gate_callee (f := 14) rfl ?_); refine goesL_ (some 45) rfl rfl Try.func14 (by kernel_rfl) rfl #[.int .i64 a0, .slice A1 l1.length c1] rfl (by (try simp only [List.map_toArray, List.map_cons, List.map_nil]); first | done | rfl | (simp only [List.length_drop, List.length_take]; rfl)) ?_; (with_reducible refine (fettleref01_Eval.calls kj7 a0 _ _ l1 t160 false _ ?side1 ?side2 A14.out).mono ?_); (case side1 => repeat (first | exact (Kd.C_below HR1.out HB.out) | (with_reducible refine Kd.C_alloc ?_ _) | (with_reducible refine Kd.C_drewN ?_ _) | (with_reducible refine Kd.C_drew ?_))); (case side2 => exact HC1.out); rintro e w' ⟨rfl, ⟨nd, rfl⟩⟩; refine ⟨_, rfl, ?_⟩))
                go_ret
                exact ⟨by first | rfl | (simp [errW_none, errW_some] <;> rfl) | (simp [*, errW_none, errW_some] <;> rfl), by repeat (first | (with_reducible first | exact HB.out | apply below_alloc | apply pw_below_drewN | apply below_drew1) | exact HB.out)⟩
              · have H1 : (if q163 = 7 then (some (t156 == 0)) else (some false)) = some r := by rw [if_neg (show ¬ (some q163).isNone = true by simp)] at H; exact H
                clear H
                have H := H1
                clear H1
                try simp only [errW_none, errW_some]
                by_cases c18 : q163 = 7
                · rw [if_pos c18] at H
                  have c18b0 : (q163 == 7) = true := beq_iff_eq.mpr c18
                  have c18b1 : (q163 != 7) = false := bne_eq_false_iff_eq.mpr c18
                  clear c18
                  obtain rfl := Option.some.inj H
                  go_wp2_with (first | ((with_reducible refine gate_callee (f := 14) rfl ?_); refine goesL_ (some 45) rfl rfl Try.func14 (by kernel_rfl) rfl #[.int .i64 a0, .slice A1 l1.length c1] rfl (by (try simp only [List.map_toArray, List.map_cons, List.map_nil]); first | done | rfl | (simp only [List.length_drop, List.length_take]; rfl)) ?_; (with_reducible refine (fettleref01_Eval.calls kj7 a0 _ _ l1 t160 false _ ?side1 ?side2 A14.out).mono ?_); (case side1 => repeat (first | exact (Kd.C_below HR1.out HB.out) | (with_reducible refine Kd.C_alloc ?_ _) | (with_reducible refine Kd.C_drewN ?_ _) | (with_reducible refine Kd.C_drew ?_))); (case side2 => exact HC1.out); rintro e w' ⟨rfl, ⟨nd, rfl⟩⟩; refine ⟨_, rfl, ?_⟩))
                  go_ret
                  exact ⟨by first | rfl | (simp [errW_none, errW_some] <;> rfl) | (simp [*, errW_none, errW_some] <;> rfl), by repeat (first | (with_reducible first | exact HB.out | apply below_alloc | apply pw_below_drewN | apply below_drew1) | exact HB.out)⟩
                · rw [if_neg c18] at H
                  have c18b0 : (q163 == 7) = false := beq_eq_false_iff_ne.mpr c18
                  have c18b1 : (q163 != 7) = true := bne_iff_ne.mpr c18
                  obtain rfl := Option.some.inj H
                  go_wp2_with (first | ((with_reducible refine gate_callee (f := 14) rfl ?_); refine goesL_ (some 45) rfl rfl Try.func14 (by kernel_rfl) rfl #[.int .i64 a0, .slice A1 l1.length c1] rfl (by (try simp only [List.map_toArray, List.map_cons, List.map_nil]); first | done | rfl | (simp only [List.length_drop, List.length_take]; rfl)) ?_; (with_reducible refine (fettleref01_Eval.calls kj7 a0 _ _ l1 t160 false _ ?side1 ?side2 A14.out).mono ?_); (case side1 => repeat (first | exact (Kd.C_below HR1.out HB.out) | (with_reducible refine Kd.C_alloc ?_ _) | (with_reducible refine Kd.C_drewN ?_ _) | (with_reducible refine Kd.C_drew ?_))); (case side2 => exact HC1.out); rintro e w' ⟨rfl, ⟨nd, rfl⟩⟩; refine ⟨_, rfl, ?_⟩))
                  go_ret
                  exact ⟨by first | rfl | (simp [errW_none, errW_some] <;> rfl) | (simp [*, errW_none, errW_some] <;> rfl), by repeat (first | (with_reducible first | exact HB.out | apply below_alloc | apply pw_below_drewN | apply below_drew1) | exact HB.out)⟩
            · replace c17 := Bool.eq_false_iff.mpr c17
              subst c17
              have H1 : (some false) = some r := by rw [if_neg (show ¬ (false = true) by decide)] at H; exact H
              clear H
              have H := H1
              clear H1
              obtain rfl := Option.some.inj H
              go_wp2_with (first | ((with_reducible refine gate_callee (f := 14) rfl ?_); refine goesL_ (some 45) rfl rfl Try.func14 (by kernel_rfl) rfl #[.int .i64 a0, .slice A1 l1.length c1] rfl (by (try simp only [List.map_toArray, List.map_cons, List.map_nil]); first | done | rfl | (simp only [List.length_drop, List.length_take]; rfl)) ?_; (with_reducible refine (fettleref01_Eval.calls kj7 a0 _ _ l1 t160 false _ ?side1 ?side2 A14.out).mono ?_); (case side1 => repeat (first | exact (Kd.C_below HR1.out HB.out) | (with_reducible refine Kd.C_alloc ?_ _) | (with_reducible refine Kd.C_drewN ?_ _) | (with_reducible refine Kd.C_drew ?_))); (case side2 => exact HC1.out); rintro e w' ⟨rfl, ⟨nd, rfl⟩⟩; refine ⟨_, rfl, ?_⟩))
              go_ret
              exact ⟨by first | rfl | (simp [errW_none, errW_some] <;> rfl) | (simp [*, errW_none, errW_some] <;> rfl), by repeat (first | (with_reducible first | exact HB.out | apply below_alloc | apply pw_below_drewN | apply below_drew1) | exact HB.out)⟩

/-- THE ONE PURE STATEMENT of fettlelaw01_ArithEvals: yours. -/
def fettlelaw01_ArithEvals.Pure : Prop := ∀ (a0 : Int) (l1 : List Int), (Lit.int .i64 a0).wf = true → l1.length ≤ maxLen → l1.length * 8 ≤ 140737488351232 → (∀ x ∈ l1, (Lit.int .i64 x).wf = true) → ∃ k, fettlelaw01_ArithEvals.f k a0 l1 = some true
theorem fettlelaw01_ArithEvals.walk (P : fettlelaw01_ArithEvals.Pure) (a0 : Int) (a1 : Option Addr) (len1 cap1 : Nat) (z1 : List Int) (w : World) (w0 : (Lit.int .i64 a0).wf = true) (w1 : (a1 = none ∧ len1 = 0 ∧ cap1 = 0 ∧ z1 = []) ∨ ∃ x, a1 = some x ∧ len1 ≤ cap1 ∧ cap1 ≤ maxLen ∧ z1.length = cap1 ∧ (∀ i, i < z1.length → w.cell? (x.add i) = some (.int .i64 (z1.getD i 0))) ∧ ∀ n ∈ z1, (Lit.int .i64 n).wf = true) (y1 : len1 * 8 ≤ 140737488351232) :
    Calls Try.prog 3 #[.int .i64 a0, .slice a1 len1 cap1] w fun e w' => e = .returned (.bool true) ∧ Below w.heap.size w w' := by
  obtain ⟨l1, rfl, hr1, hm1, hw1, hc1⟩ := ReadsInt.ofRowC w1
  obtain ⟨k, h⟩ := P a0 l1 w0 hm1 y1 hw1
  refine (fettlelaw01_ArithEvals.calls k a0 _ _ l1 true w (Kd.C_of_reads (d := (0 : Int)) (h1 := fun _ => rfl) hr1) hc1 h).mono ?_
  rintro e w' ⟨rfl, hd⟩
  exact ⟨rfl, hd⟩

end Go.Proofs.Ytenlbbookiopiaa.PArithEvals
