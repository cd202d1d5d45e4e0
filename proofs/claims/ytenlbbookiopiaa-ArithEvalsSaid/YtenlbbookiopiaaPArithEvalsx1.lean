-- Laid by a program of this session (wip/pp/patch.py over the kit's print).
import Derived.Test.YtenlbbookiopiaaPArithEvalsx0
namespace Go.Proofs.Ytenlbbookiopiaa.PArithEvals
open Go.RowKit Go.Proofs.YtenlbbookiopiaaW.PrintWords Go.Proofs.YtenlbbookiopiaaW.PrintLast Go.Proofs.YtenlbbookiopiaaW.PrintMore
attribute [local go_sem] max2_int min2_int max_two min_two max_three min_three max_four min_four   -- for this text's walks alone
attribute [local go_sem] eqErr25 neErr25 nilErr25
set_option linter.unusedVariables false
set_option linter.unusedSimpArgs false

/-! ### arith_Args: function 16 -/
def arith_Args.j0 : Nat → Int → Bool → Option (Int × Bool)
  | 0, _, _ => none
  | k + 1, x0, x4 => if x4 = true then (some (1, true)) else (if x0 ≥ 3 then (if x0 ≤ 13 then (some (2, true)) else (some (0, false))) else (some (0, false)))
def arith_Args.f (k : Nat) (a0 : Int) : Option (Int × Bool) := if a0 = 2 then (arith_Args.j0 k a0 true) else (arith_Args.j0 k a0 (a0 == 14))
theorem arith_Args.mono_l : ∀ k, (∀ y0 y1, LeO (arith_Args.j0 k y0 y1) (arith_Args.j0 (k + 1) y0 y1))
  | 0 => fun _ _ r h => by simp [arith_Args.j0] at h
  | k + 1 => by
    have ih0 := arith_Args.mono_l k
    · intro y0 y1
      unfold arith_Args.j0
      repeat' first
      | (with_reducible exact ih0 _ _)
      | (with_reducible exact LeO.refl _)
      | (with_reducible exact LeO.none _)
      | (with_reducible refine LeO.ite ?_ ?_)
      | (with_reducible refine LeO.bind ?_ (fun _ => ?_))
      | exact ih0 _ _
      | exact LeO.none _
      | refine LeO.ite ?_ ?_
      | refine LeO.bind ?_ (fun _ => ?_)
theorem arith_Args.mono : ∀ a0 k, LeO (arith_Args.f k a0) (arith_Args.f (k + 1) a0) := by
  intro a0 k
  have ih0 := arith_Args.mono_l k
  unfold arith_Args.f
  repeat' first
      | (with_reducible exact ih0 _ _)
      | (with_reducible exact LeO.refl _)
      | (with_reducible exact LeO.none _)
      | (with_reducible refine LeO.ite ?_ ?_)
      | (with_reducible refine LeO.bind ?_ (fun _ => ?_))
      | exact ih0 _ _
      | exact LeO.none _
      | refine LeO.ite ?_ ?_
      | refine LeO.bind ?_ (fun _ => ?_)
set_option maxHeartbeats 8000000 in
set_option maxRecDepth 100000 in
theorem arith_Args.calls (k : Nat) (a0 : Int) (r1 : Int) (r2 : Bool) (w : World) (h : arith_Args.f k a0 = some (r1, r2)) :
    Calls Try.prog 16 #[.int .i64 a0] w fun e w' => e = .returned (.tuple #[.int .i64 r1, .bool r2]) ∧ Drawn0 w w' := by
  have H : (if a0 = 2 then (arith_Args.j0 k a0 true) else (arith_Args.j0 k a0 (a0 == 14))) = some (r1, r2) := h
  clear h
  have HC2 := Aside0.mk H
  clear H
  go_enter Try.func16, Try.ntmps16
  go_upto_region 1 with (fail)
  go_cut [4] (fun v4 wc => ∃ (kq : Nat) (x4_1 : Bool), v4 = .bool x4_1 ∧ Aside0 (arith_Args.j0 kq a0 x4_1 = some (r1, r2)) ∧ Aside0 (kq ≤ k) ∧ Drawn0 w wc)
  case first =>
    have H := HC2.out
    clear HC2
    by_cases c3 : a0 = 2
    · rw [if_pos c3] at H
      have c3b0 : (a0 == 2) = true := beq_iff_eq.mpr c3
      have c3b1 : (a0 != 2) = false := bne_eq_false_iff_eq.mpr c3
      clear c3
      (first | rw [c3b0] | (simp only [i64_w, i32_w]; rw [c3b0]) | skip)
      have H' := Aside0.mk H
      clear H
      go_wp2
      go_meet
      case rel => exact ⟨_, (true), (by first | rfl | (simp; done) | (simp [*]; done)), H', ⟨by first | omega | exact Nat.le_refl _⟩, by repeat (first | exact Drawn0.refl _ | apply Drawn0.step)⟩
    · rw [if_neg c3] at H
      have c3b0 : (a0 == 2) = false := beq_eq_false_iff_ne.mpr c3
      have c3b1 : (a0 != 2) = true := bne_iff_ne.mpr c3
      (first | rw [c3b0] | (simp only [i64_w, i32_w]; rw [c3b0]) | skip)
      have H' := Aside0.mk H
      clear H
      go_wp2
      go_meet
      case rel => exact ⟨_, ((a0 == 14)), (by first | rfl | (simp; done) | (simp [*]; done)), H', ⟨by first | omega | exact Nat.le_refl _⟩, by repeat (first | exact Drawn0.refl _ | apply Drawn0.step)⟩
  case rest =>
    clear HC2
    try clear c1
    try clear p2
    try clear c3
    try clear c3b0
    try clear c3b1
    obtain ⟨kq, x4_1, rfl, HA, HJ1, ⟨mc1, rfl⟩⟩ := hcut
    cases kq with
    | zero => exact absurd HA.out (by simp [arith_Args.j0])
    | succ kj1 =>
      have H := HA.out
      clear HA
      simp only [arith_Args.j0] at H
      by_cases c4 : x4_1 = true
      · subst c4
        have H1 : (some (1, true)) = some (r1, r2) := by rw [if_pos rfl] at H; exact H
        clear H
        have H := H1
        clear H1
        simp only [Option.some.injEq, Prod.mk.injEq] at H
        obtain ⟨rfl, rfl⟩ := H
        go_wp2
        go_ret2
        exact ⟨by first | rfl | (simp; done) | (simp [*]; done) | (simp [show Go.RowKit.wrap64 0 = 0 by unfold Go.RowKit.wrap64; decide]; done), by repeat (first | exact Drawn0.refl _ | apply Drawn0.step)⟩
      · replace c4 := Bool.eq_false_iff.mpr c4
        subst c4
        have H1 : (if a0 ≥ 3 then (if a0 ≤ 13 then (some (2, true)) else (some (0, false))) else (some (0, false))) = some (r1, r2) := by rw [if_neg (show ¬ (false = true) by decide)] at H; exact H
        clear H
        have H := H1
        clear H1
        by_cases c5 : a0 ≥ 3
        · rw [if_pos c5] at H
          have c5b0 : decide (3 ≤ a0) = true := decide_eq_true c5
          clear c5
          by_cases c6 : a0 ≤ 13
          · rw [if_pos c6] at H
            have c6b0 : decide (a0 ≤ 13) = true := decide_eq_true c6
            clear c6
            simp only [Option.some.injEq, Prod.mk.injEq] at H
            obtain ⟨rfl, rfl⟩ := H
            go_wp2
            go_ret2
            exact ⟨by first | rfl | (simp; done) | (simp [*]; done) | (simp [show Go.RowKit.wrap64 0 = 0 by unfold Go.RowKit.wrap64; decide]; done), by repeat (first | exact Drawn0.refl _ | apply Drawn0.step)⟩
          · rw [if_neg c6] at H
            have c6b0 : decide (a0 ≤ 13) = false := decide_eq_false c6
            clear c6
            simp only [Option.some.injEq, Prod.mk.injEq] at H
            obtain ⟨rfl, rfl⟩ := H
            go_wp2
            go_ret2
            exact ⟨by first | rfl | (simp; done) | (simp [*]; done) | (simp [show Go.RowKit.wrap64 0 = 0 by unfold Go.RowKit.wrap64; decide]; done), by repeat (first | exact Drawn0.refl _ | apply Drawn0.step)⟩
        · rw [if_neg c5] at H
          have c5b0 : decide (3 ≤ a0) = false := decide_eq_false c5
          clear c5
          simp only [Option.some.injEq, Prod.mk.injEq] at H
          obtain ⟨rfl, rfl⟩ := H
          go_wp2
          go_ret2
          exact ⟨by first | rfl | (simp; done) | (simp [*]; done) | (simp [show Go.RowKit.wrap64 0 = 0 by unfold Go.RowKit.wrap64; decide]; done), by repeat (first | exact Drawn0.refl _ | apply Drawn0.step)⟩

/-! ### arith_bit: function 18 -/
def arith_bit.f (a0 : Bool) : Option (Int) := if a0 = true then (some 1) else (some 0)
set_option maxHeartbeats 8000000 in
set_option maxRecDepth 100000 in
theorem arith_bit.calls (a0 : Bool) (r : Int) (w : World) (h : arith_bit.f a0 = some r) :
    Calls Try.prog 18 #[.bool a0] w fun e w' => e = .returned (.int .i64 r) ∧ Drawn0 w w' := by
  have H : (if a0 = true then (some 1) else (some 0)) = some r := h
  clear h
  by_cases c2 : a0 = true
  · subst c2
    have H1 : (some 1) = some r := by rw [if_pos rfl] at H; exact H
    clear H
    have H := H1
    clear H1
    obtain rfl := Option.some.inj H
    go_enter Try.func18, Try.ntmps18
    go_wp2
    go_ret
    exact ⟨by first | rfl | (simp; done) | (simp [*]; done) | (simp [show Go.RowKit.wrap64 0 = 0 by unfold Go.RowKit.wrap64; decide]; done), by repeat (first | exact Drawn0.refl _ | apply Drawn0.step)⟩
  · replace c2 := Bool.eq_false_iff.mpr c2
    subst c2
    have H1 : (some 0) = some r := by rw [if_neg (show ¬ (false = true) by decide)] at H; exact H
    clear H
    have H := H1
    clear H1
    obtain rfl := Option.some.inj H
    go_enter Try.func18, Try.ntmps18
    go_wp2
    go_ret
    exact ⟨by first | rfl | (simp; done) | (simp [*]; done) | (simp [show Go.RowKit.wrap64 0 = 0 by unfold Go.RowKit.wrap64; decide]; done), by repeat (first | exact Drawn0.refl _ | apply Drawn0.step)⟩

/-! ### arith_Eval: function 12 -/
def arith_Eval.j0 : Nat → Int → List Int → Bool → Option (Int × Option Int)
  | 0, _, _, _ => none
  | k + 1, x0, x1, x22 => if x22 = true then (some (0, some 1)) else (if 0 < (x1.length : Int) then (if x0 = 2 then (some (rd x1 0, none)) else (if x0 = 14 then (some (wrap64 (1 - (rd x1 0)), none)) else (if 1 < (x1.length : Int) then (if x0 = 3 then (some (wrap64 ((rd x1 0) + (rd x1 1)), none)) else (if x0 = 4 then (some (wrap64 ((rd x1 0) - (rd x1 1)), none)) else (if x0 = 5 then (some (wrap64 ((rd x1 0) * (rd x1 1)), none)) else (if x0 = 6 then (some (Go.bits .and .i64 (rd x1 0) (rd x1 1), none)) else (if x0 = 7 then (some (Go.bits .or .i64 (rd x1 0) (rd x1 1), none)) else (if x0 = 8 then (some (Go.bits .xor .i64 (rd x1 0) (rd x1 1), none)) else (if x0 = 9 then (if 0 ≤ (Go.bits .and .u64 (IntKind.u64.wrap (rd x1 1)) 63) then (some (shl .i64 (rd x1 0) (Go.bits .and .u64 (IntKind.u64.wrap (rd x1 1)) 63), none)) else (none)) else (if x0 = 10 then (if 0 ≤ (Go.bits .and .u64 (IntKind.u64.wrap (rd x1 1)) 63) then (some (shr .i64 (rd x1 0) (Go.bits .and .u64 (IntKind.u64.wrap (rd x1 1)) 63), none)) else (none)) else (if x0 = 12 then ((arith_bit.f (decide ((rd x1 0) < (rd x1 1)))).bind fun t105 => (some (t105, none))) else (if x0 = 13 then ((arith_bit.f ((rd x1 0) == (rd x1 1))).bind fun t106 => (some (t106, none))) else (if (rd x1 1) = 0 then (some (0, some 7)) else (some (wrap64 (Int.tdiv (rd x1 0) (rd x1 1)), none))))))))))))) else (none)))) else (none))
def arith_Eval.f (k : Nat) (a0 : Int) (l1 : List Int) : Option (Int × Option Int) := (arith_Args.f k a0).bind fun bt101 => (if bt101.2 = true then (arith_Eval.j0 k a0 l1 ((l1.length : Int) != bt101.1)) else (arith_Eval.j0 k a0 l1 true))
theorem arith_Eval.mono_l : ∀ k, (∀ y0 y1 y2, LeO (arith_Eval.j0 k y0 y1 y2) (arith_Eval.j0 (k + 1) y0 y1 y2))
  | 0 => fun _ _ _ r h => by simp [arith_Eval.j0] at h
  | k + 1 => by
    have ih0 := arith_Eval.mono_l k
    · intro y0 y1 y2
      unfold arith_Eval.j0
      repeat' first
      | (with_reducible exact ih0 _ _ _)
      | (with_reducible exact arith_Args.mono _ _)
      | (with_reducible exact LeO.refl _)
      | (with_reducible exact LeO.none _)
      | (with_reducible refine LeO.ite ?_ ?_)
      | (with_reducible refine LeO.bind ?_ (fun _ => ?_))
      | exact ih0 _ _ _
      | exact arith_Args.mono _ _
      | exact LeO.none _
      | refine LeO.ite ?_ ?_
      | refine LeO.bind ?_ (fun _ => ?_)
theorem arith_Eval.mono : ∀ a0 a1 k, LeO (arith_Eval.f k a0 a1) (arith_Eval.f (k + 1) a0 a1) := by
  intro a0 a1 k
  have ih0 := arith_Eval.mono_l k
  unfold arith_Eval.f
  repeat' first
      | (with_reducible exact ih0 _ _ _)
      | (with_reducible exact arith_Args.mono _ _)
      | (with_reducible exact LeO.refl _)
      | (with_reducible exact LeO.none _)
      | (with_reducible refine LeO.ite ?_ ?_)
      | (with_reducible refine LeO.bind ?_ (fun _ => ?_))
      | exact ih0 _ _ _
      | exact arith_Args.mono _ _
      | exact LeO.none _
      | refine LeO.ite ?_ ?_
      | refine LeO.bind ?_ (fun _ => ?_)
set_option maxHeartbeats 8000000 in
set_option maxRecDepth 100000 in
theorem arith_Eval.calls (k : Nat) (a0 : Int) (A1 : Option Addr) (c1 : Nat) (l1 : List Int) (r1 : Int) (r2 : Option Int) (w : World) (hr1 : Kd.C (Kd.int .i64) w A1 l1.length l1) (hc1 : l1.length ≤ c1) (h : arith_Eval.f k a0 l1 = some (r1, r2)) :
    Calls Try.prog 12 #[.int .i64 a0, .slice A1 l1.length c1] w fun e w' => e = .returned (.tuple #[.int .i64 r1, errW r2]) ∧ Drawn0 w w' := by
  have hu25 := Try.underlying25
  have hu29 := Try.underlying29
  have HR1 := Aside0.mk hr1
  have HC1 := Aside0.mk hc1
  clear hr1 hc1
  have H : ((arith_Args.f k a0).bind fun bt101 => (if bt101.2 = true then (arith_Eval.j0 k a0 l1 ((l1.length : Int) != bt101.1)) else (arith_Eval.j0 k a0 l1 true))) = some (r1, r2) := h
  clear h
  replace H := Option.bind_eq_some_iff.mp H
  obtain ⟨⟨t101, t102⟩, A30, H⟩ := H
  replace H : (if t102 = true then (arith_Eval.j0 k a0 l1 ((l1.length : Int) != t101)) else (arith_Eval.j0 k a0 l1 true)) = some (r1, r2) := H
  have A3 := Aside0.mk A30
  clear A30
  have HC4 := Aside0.mk H
  clear H
  go_enter Try.func12, Try.ntmps12
  go_upto_region 2 with (first | ((with_reducible refine gate_callee (f := 16) rfl ?_); refine goesL_ (some 12) rfl rfl Try.func16 (by kernel_rfl) rfl #[.int .i64 a0] rfl (by (try simp only [List.map_toArray, List.map_cons, List.map_nil]); first | done | rfl | (simp only [List.length_drop, List.length_take]; rfl)) ?_; (with_reducible refine (arith_Args.calls k a0 t101 t102 _ A3.out).mono ?_); rintro e w' ⟨rfl, ⟨nd, rfl⟩⟩; refine ⟨_, rfl, ?_⟩))
  (try simp only [Act.put, List.setIfInBounds_toArray, List.set_cons_zero, List.set_cons_succ])
  go_cut [22] (fun v22 wc => ∃ (kq : Nat) (x22_3 : Bool), v22 = .bool x22_3 ∧ Aside0 (arith_Eval.j0 kq a0 l1 x22_3 = some (r1, r2)) ∧ Aside0 (kq ≤ k) ∧ Drawn0 w wc)
  case first =>
    have H := HC4.out
    clear HC4
    by_cases c5 : t102 = true
    · subst c5
      have H1 : (arith_Eval.j0 k a0 l1 ((l1.length : Int) != t101)) = some (r1, r2) := by rw [if_pos rfl] at H; exact H
      clear H
      have H := H1
      clear H1
      have H' := Aside0.mk H
      clear H
      go_wp2
      go_meet
      case rel => exact ⟨_, (((l1.length : Int) != t101)), (by first | rfl | (simp; done) | (simp [*]; done)), H', ⟨by first | omega | exact Nat.le_refl _⟩, by repeat (first | exact Drawn0.refl _ | apply Drawn0.step)⟩
    · replace c5 := Bool.eq_false_iff.mpr c5
      subst c5
      have H1 : (arith_Eval.j0 k a0 l1 true) = some (r1, r2) := by rw [if_neg (show ¬ (false = true) by decide)] at H; exact H
      clear H
      have H := H1
      clear H1
      have H' := Aside0.mk H
      clear H
      go_wp2
      go_meet
      case rel => exact ⟨_, (true), (by first | rfl | (simp; done) | (simp [*]; done)), H', ⟨by first | omega | exact Nat.le_refl _⟩, by repeat (first | exact Drawn0.refl _ | apply Drawn0.step)⟩
  case rest =>
    clear HC4
    try clear c1
    try clear p2
    try clear c5
    obtain ⟨kq, x22_3, rfl, HA, HJ3, ⟨mc3, rfl⟩⟩ := hcut
    cases kq with
    | zero => exact absurd HA.out (by simp [arith_Eval.j0])
    | succ kj3 =>
      have H := HA.out
      clear HA
      simp only [arith_Eval.j0] at H
      by_cases c6 : x22_3 = true
      · subst c6
        have H1 : (some (0, some 1)) = some (r1, r2) := by rw [if_pos rfl] at H; exact H
        clear H
        have H := H1
        clear H1
        simp only [Option.some.injEq, Prod.mk.injEq] at H
        obtain ⟨rfl, rfl⟩ := H
        go_wp2
        go_ret2
        exact ⟨by first | rfl | (simp; done) | (simp [*]; done) | (simp [show Go.RowKit.wrap64 0 = 0 by unfold Go.RowKit.wrap64; decide]; done), by repeat (first | exact Drawn0.refl _ | apply Drawn0.step)⟩
      · replace c6 := Bool.eq_false_iff.mpr c6
        subst c6
        have H1 : (if 0 < (l1.length : Int) then (if a0 = 2 then (some (rd l1 0, none)) else (if a0 = 14 then (some (wrap64 (1 - (rd l1 0)), none)) else (if 1 < (l1.length : Int) then (if a0 = 3 then (some (wrap64 ((rd l1 0) + (rd l1 1)), none)) else (if a0 = 4 then (some (wrap64 ((rd l1 0) - (rd l1 1)), none)) else (if a0 = 5 then (some (wrap64 ((rd l1 0) * (rd l1 1)), none)) else (if a0 = 6 then (some (Go.bits .and .i64 (rd l1 0) (rd l1 1), none)) else (if a0 = 7 then (some (Go.bits .or .i64 (rd l1 0) (rd l1 1), none)) else (if a0 = 8 then (some (Go.bits .xor .i64 (rd l1 0) (rd l1 1), none)) else (if a0 = 9 then (if 0 ≤ (Go.bits .and .u64 (IntKind.u64.wrap (rd l1 1)) 63) then (some (shl .i64 (rd l1 0) (Go.bits .and .u64 (IntKind.u64.wrap (rd l1 1)) 63), none)) else (none)) else (if a0 = 10 then (if 0 ≤ (Go.bits .and .u64 (IntKind.u64.wrap (rd l1 1)) 63) then (some (shr .i64 (rd l1 0) (Go.bits .and .u64 (IntKind.u64.wrap (rd l1 1)) 63), none)) else (none)) else (if a0 = 12 then ((arith_bit.f (decide ((rd l1 0) < (rd l1 1)))).bind fun t105 => (some (t105, none))) else (if a0 = 13 then ((arith_bit.f ((rd l1 0) == (rd l1 1))).bind fun t106 => (some (t106, none))) else (if (rd l1 1) = 0 then (some (0, some 7)) else (some (wrap64 (Int.tdiv (rd l1 0) (rd l1 1)), none))))))))))))) else (none)))) else (none)) = some (r1, r2) := by rw [if_neg (show ¬ (false = true) by decide)] at H; exact H
        clear H
        have H := H1
        clear H1
        by_cases c7 : 0 < (l1.length : Int)
        · rw [if_pos c7] at H
          have c7b0 : decide (0 < (l1.length : Int)) = true := decide_eq_true c7
          have c7b1 : decide (0 < l1.length) = true := decide_eq_true (by omega)
          clear c7
          by_cases c8 : a0 = 2
          · rw [if_pos c8] at H
            have c8b0 : (a0 == 2) = true := beq_iff_eq.mpr c8
            have c8b1 : (a0 != 2) = false := bne_eq_false_iff_eq.mpr c8
            clear c8
            simp only [Option.some.injEq, Prod.mk.injEq] at H
            obtain ⟨rfl, rfl⟩ := H
            have p103 : 0 ≤ (0 : Int) := (by omega)
            have q103 : 0 < (l1.length : Int) := of_decide_eq_true (by first | (with_reducible assumption) | assumption)
            obtain ⟨ad103, e103, hx103_0⟩ := Kd.at_int HR1.out 0 p103 q103
            cases e103
            have qi103 : (0 < l1.length) = True := eq_true (by omega)
            (try rw [show ((0 : Int)).toNat = 0 from rfl] at hx103_0)
            (try rw [Addr.add_zero'] at hx103_0)
            replace p103 := eq_true p103
            replace q103 := eq_true q103
            go_wp2
            go_ret2
            exact ⟨by first | rfl | (simp; done) | (simp [*]; done) | (simp [show Go.RowKit.wrap64 0 = 0 by unfold Go.RowKit.wrap64; decide]; done), by repeat (first | exact Drawn0.refl _ | apply Drawn0.step)⟩
          · rw [if_neg c8] at H
            have c8b0 : (a0 == 2) = false := beq_eq_false_iff_ne.mpr c8
            have c8b1 : (a0 != 2) = true := bne_iff_ne.mpr c8
            by_cases c9 : a0 = 14
            · rw [if_pos c9] at H
              have c9b0 : (a0 == 14) = true := beq_iff_eq.mpr c9
              have c9b1 : (a0 != 14) = false := bne_eq_false_iff_eq.mpr c9
              clear c9
              simp only [Option.some.injEq, Prod.mk.injEq] at H
              obtain ⟨rfl, rfl⟩ := H
              have p103 : 0 ≤ (0 : Int) := (by omega)
              have q103 : 0 < (l1.length : Int) := of_decide_eq_true (by first | (with_reducible assumption) | assumption)
              obtain ⟨ad103, e103, hx103_0⟩ := Kd.at_int HR1.out 0 p103 q103
              cases e103
              have qi103 : (0 < l1.length) = True := eq_true (by omega)
              (try rw [show ((0 : Int)).toNat = 0 from rfl] at hx103_0)
              (try rw [Addr.add_zero'] at hx103_0)
              replace p103 := eq_true p103
              replace q103 := eq_true q103
              go_wp2
              go_ret2
              exact ⟨by first | rfl | (simp; done) | (simp [*]; done) | (simp [show Go.RowKit.wrap64 0 = 0 by unfold Go.RowKit.wrap64; decide]; done), by repeat (first | exact Drawn0.refl _ | apply Drawn0.step)⟩
            · rw [if_neg c9] at H
              have c9b0 : (a0 == 14) = false := beq_eq_false_iff_ne.mpr c9
              have c9b1 : (a0 != 14) = true := bne_iff_ne.mpr c9
              by_cases c10 : 1 < (l1.length : Int)
              · rw [if_pos c10] at H
                have c10b0 : decide (1 < (l1.length : Int)) = true := decide_eq_true c10
                have c10b1 : decide (1 < l1.length) = true := decide_eq_true (by omega)
                clear c10
                by_cases c11 : a0 = 3
                · rw [if_pos c11] at H
                  have c11b0 : (a0 == 3) = true := beq_iff_eq.mpr c11
                  have c11b1 : (a0 != 3) = false := bne_eq_false_iff_eq.mpr c11
                  clear c11
                  simp only [Option.some.injEq, Prod.mk.injEq] at H
                  obtain ⟨rfl, rfl⟩ := H
                  have p103 : 0 ≤ (0 : Int) := (by omega)
                  have q103 : 0 < (l1.length : Int) := of_decide_eq_true (by first | (with_reducible assumption) | assumption)
                  obtain ⟨ad103, e103, hx103_0⟩ := Kd.at_int HR1.out 0 p103 q103
                  cases e103
                  have qi103 : (0 < l1.length) = True := eq_true (by omega)
                  (try rw [show ((0 : Int)).toNat = 0 from rfl] at hx103_0)
                  (try rw [Addr.add_zero'] at hx103_0)
                  replace p103 := eq_true p103
                  replace q103 := eq_true q103
                  have p104 : 0 ≤ (1 : Int) := (by omega)
                  have q104 : 1 < (l1.length : Int) := of_decide_eq_true (by first | (with_reducible assumption) | assumption)
                  obtain ⟨ad104, e104, hx104_0⟩ := Kd.at_int HR1.out 1 p104 q104
                  obtain rfl : ad103 = ad104 := (by injection e104)
                  (try simp only [show (1 : Int).toNat = 1 from rfl, Nat.reduceMul, Nat.reduceEqDiff, Go.Addr.add, ↓reduceIte] at hx104_0)
                  have qi104 : (1 < l1.length) = True := eq_true (by omega)
                  (try rw [show ((1 : Int)).toNat = 1 from rfl] at hx104_0)
                  replace p104 := eq_true p104
                  replace q104 := eq_true q104
                  go_wp2
                  go_ret2
                  exact ⟨by first | rfl | (simp; done) | (simp [*]; done) | (simp [show Go.RowKit.wrap64 0 = 0 by unfold Go.RowKit.wrap64; decide]; done), by repeat (first | exact Drawn0.refl _ | apply Drawn0.step)⟩
                · rw [if_neg c11] at H
                  have c11b0 : (a0 == 3) = false := beq_eq_false_iff_ne.mpr c11
                  have c11b1 : (a0 != 3) = true := bne_iff_ne.mpr c11
                  by_cases c12 : a0 = 4
                  · rw [if_pos c12] at H
                    have c12b0 : (a0 == 4) = true := beq_iff_eq.mpr c12
                    have c12b1 : (a0 != 4) = false := bne_eq_false_iff_eq.mpr c12
                    clear c12
                    simp only [Option.some.injEq, Prod.mk.injEq] at H
                    obtain ⟨rfl, rfl⟩ := H
                    have p103 : 0 ≤ (0 : Int) := (by omega)
                    have q103 : 0 < (l1.length : Int) := of_decide_eq_true (by first | (with_reducible assumption) | assumption)
                    obtain ⟨ad103, e103, hx103_0⟩ := Kd.at_int HR1.out 0 p103 q103
                    cases e103
                    have qi103 : (0 < l1.length) = True := eq_true (by omega)
                    (try rw [show ((0 : Int)).toNat = 0 from rfl] at hx103_0)
                    (try rw [Addr.add_zero'] at hx103_0)
                    replace p103 := eq_true p103
                    replace q103 := eq_true q103
                    have p104 : 0 ≤ (1 : Int) := (by omega)
                    have q104 : 1 < (l1.length : Int) := of_decide_eq_true (by first | (with_reducible assumption) | assumption)
                    obtain ⟨ad104, e104, hx104_0⟩ := Kd.at_int HR1.out 1 p104 q104
                    obtain rfl : ad103 = ad104 := (by injection e104)
                    (try simp only [show (1 : Int).toNat = 1 from rfl, Nat.reduceMul, Nat.reduceEqDiff, Go.Addr.add, ↓reduceIte] at hx104_0)
                    have qi104 : (1 < l1.length) = True := eq_true (by omega)
                    (try rw [show ((1 : Int)).toNat = 1 from rfl] at hx104_0)
                    replace p104 := eq_true p104
                    replace q104 := eq_true q104
                    go_wp2
                    go_ret2
                    exact ⟨by first | rfl | (simp; done) | (simp [*]; done) | (simp [show Go.RowKit.wrap64 0 = 0 by unfold Go.RowKit.wrap64; decide]; done), by repeat (first | exact Drawn0.refl _ | apply Drawn0.step)⟩
                  · rw [if_neg c12] at H
                    have c12b0 : (a0 == 4) = false := beq_eq_false_iff_ne.mpr c12
                    have c12b1 : (a0 != 4) = true := bne_iff_ne.mpr c12
                    by_cases c13 : a0 = 5
                    · rw [if_pos c13] at H
                      have c13b0 : (a0 == 5) = true := beq_iff_eq.mpr c13
                      have c13b1 : (a0 != 5) = false := bne_eq_false_iff_eq.mpr c13
                      clear c13
                      simp only [Option.some.injEq, Prod.mk.injEq] at H
                      obtain ⟨rfl, rfl⟩ := H
                      have p103 : 0 ≤ (0 : Int) := (by omega)
                      have q103 : 0 < (l1.length : Int) := of_decide_eq_true (by first | (with_reducible assumption) | assumption)
                      obtain ⟨ad103, e103, hx103_0⟩ := Kd.at_int HR1.out 0 p103 q103
                      cases e103
                      have qi103 : (0 < l1.length) = True := eq_true (by omega)
                      (try rw [show ((0 : Int)).toNat = 0 from rfl] at hx103_0)
                      (try rw [Addr.add_zero'] at hx103_0)
                      replace p103 := eq_true p103
                      replace q103 := eq_true q103
                      have p104 : 0 ≤ (1 : Int) := (by omega)
                      have q104 : 1 < (l1.length : Int) := of_decide_eq_true (by first | (with_reducible assumption) | assumption)
                      obtain ⟨ad104, e104, hx104_0⟩ := Kd.at_int HR1.out 1 p104 q104
                      obtain rfl : ad103 = ad104 := (by injection e104)
                      (try simp only [show (1 : Int).toNat = 1 from rfl, Nat.reduceMul, Nat.reduceEqDiff, Go.Addr.add, ↓reduceIte] at hx104_0)
                      have qi104 : (1 < l1.length) = True := eq_true (by omega)
                      (try rw [show ((1 : Int)).toNat = 1 from rfl] at hx104_0)
                      replace p104 := eq_true p104
                      replace q104 := eq_true q104
                      go_wp2
                      go_ret2
                      exact ⟨by first | rfl | (simp; done) | (simp [*]; done) | (simp [show Go.RowKit.wrap64 0 = 0 by unfold Go.RowKit.wrap64; decide]; done), by repeat (first | exact Drawn0.refl _ | apply Drawn0.step)⟩
                    · rw [if_neg c13] at H
                      have c13b0 : (a0 == 5) = false := beq_eq_false_iff_ne.mpr c13
                      have c13b1 : (a0 != 5) = true := bne_iff_ne.mpr c13
                      by_cases c14 : a0 = 6
                      · rw [if_pos c14] at H
                        have c14b0 : (a0 == 6) = true := beq_iff_eq.mpr c14
                        have c14b1 : (a0 != 6) = false := bne_eq_false_iff_eq.mpr c14
                        clear c14
                        simp only [Option.some.injEq, Prod.mk.injEq] at H
                        obtain ⟨rfl, rfl⟩ := H
                        have p103 : 0 ≤ (0 : Int) := (by omega)
                        have q103 : 0 < (l1.length : Int) := of_decide_eq_true (by first | (with_reducible assumption) | assumption)
                        obtain ⟨ad103, e103, hx103_0⟩ := Kd.at_int HR1.out 0 p103 q103
                        cases e103
                        have qi103 : (0 < l1.length) = True := eq_true (by omega)
                        (try rw [show ((0 : Int)).toNat = 0 from rfl] at hx103_0)
                        (try rw [Addr.add_zero'] at hx103_0)
                        replace p103 := eq_true p103
                        replace q103 := eq_true q103
                        have p104 : 0 ≤ (1 : Int) := (by omega)
                        have q104 : 1 < (l1.length : Int) := of_decide_eq_true (by first | (with_reducible assumption) | assumption)
                        obtain ⟨ad104, e104, hx104_0⟩ := Kd.at_int HR1.out 1 p104 q104
                        obtain rfl : ad103 = ad104 := (by injection e104)
                        (try simp only [show (1 : Int).toNat = 1 from rfl, Nat.reduceMul, Nat.reduceEqDiff, Go.Addr.add, ↓reduceIte] at hx104_0)
                        have qi104 : (1 < l1.length) = True := eq_true (by omega)
                        (try rw [show ((1 : Int)).toNat = 1 from rfl] at hx104_0)
                        replace p104 := eq_true p104
                        replace q104 := eq_true q104
                        go_wp2
                        go_ret2
                        exact ⟨by first | rfl | (simp; done) | (simp [*]; done) | (simp [show Go.RowKit.wrap64 0 = 0 by unfold Go.RowKit.wrap64; decide]; done), by repeat (first | exact Drawn0.refl _ | apply Drawn0.step)⟩
                      · rw [if_neg c14] at H
                        have c14b0 : (a0 == 6) = false := beq_eq_false_iff_ne.mpr c14
                        have c14b1 : (a0 != 6) = true := bne_iff_ne.mpr c14
                        by_cases c15 : a0 = 7
                        · rw [if_pos c15] at H
                          have c15b0 : (a0 == 7) = true := beq_iff_eq.mpr c15
                          have c15b1 : (a0 != 7) = false := bne_eq_false_iff_eq.mpr c15
                          clear c15
                          simp only [Option.some.injEq, Prod.mk.injEq] at H
                          obtain ⟨rfl, rfl⟩ := H
                          have p103 : 0 ≤ (0 : Int) := (by omega)
                          have q103 : 0 < (l1.length : Int) := of_decide_eq_true (by first | (with_reducible assumption) | assumption)
                          obtain ⟨ad103, e103, hx103_0⟩ := Kd.at_int HR1.out 0 p103 q103
                          cases e103
                          have qi103 : (0 < l1.length) = True := eq_true (by omega)
                          (try rw [show ((0 : Int)).toNat = 0 from rfl] at hx103_0)
                          (try rw [Addr.add_zero'] at hx103_0)
                          replace p103 := eq_true p103
                          replace q103 := eq_true q103
                          have p104 : 0 ≤ (1 : Int) := (by omega)
                          have q104 : 1 < (l1.length : Int) := of_decide_eq_true (by first | (with_reducible assumption) | assumption)
                          obtain ⟨ad104, e104, hx104_0⟩ := Kd.at_int HR1.out 1 p104 q104
                          obtain rfl : ad103 = ad104 := (by injection e104)
                          (try simp only [show (1 : Int).toNat = 1 from rfl, Nat.reduceMul, Nat.reduceEqDiff, Go.Addr.add, ↓reduceIte] at hx104_0)
                          have qi104 : (1 < l1.length) = True := eq_true (by omega)
                          (try rw [show ((1 : Int)).toNat = 1 from rfl] at hx104_0)
                          replace p104 := eq_true p104
                          replace q104 := eq_true q104
                          go_wp2
                          go_ret2
                          exact ⟨by first | rfl | (simp; done) | (simp [*]; done) | (simp [show Go.RowKit.wrap64 0 = 0 by unfold Go.RowKit.wrap64; decide]; done), by repeat (first | exact Drawn0.refl _ | apply Drawn0.step)⟩
                        · rw [if_neg c15] at H
                          have c15b0 : (a0 == 7) = false := beq_eq_false_iff_ne.mpr c15
                          have c15b1 : (a0 != 7) = true := bne_iff_ne.mpr c15
                          by_cases c16 : a0 = 8
                          · rw [if_pos c16] at H
                            have c16b0 : (a0 == 8) = true := beq_iff_eq.mpr c16
                            have c16b1 : (a0 != 8) = false := bne_eq_false_iff_eq.mpr c16
                            clear c16
                            simp only [Option.some.injEq, Prod.mk.injEq] at H
                            obtain ⟨rfl, rfl⟩ := H
                            have p103 : 0 ≤ (0 : Int) := (by omega)
                            have q103 : 0 < (l1.length : Int) := of_decide_eq_true (by first | (with_reducible assumption) | assumption)
                            obtain ⟨ad103, e103, hx103_0⟩ := Kd.at_int HR1.out 0 p103 q103
                            cases e103
                            have qi103 : (0 < l1.length) = True := eq_true (by omega)
                            (try rw [show ((0 : Int)).toNat = 0 from rfl] at hx103_0)
                            (try rw [Addr.add_zero'] at hx103_0)
                            replace p103 := eq_true p103
                            replace q103 := eq_true q103
                            have p104 : 0 ≤ (1 : Int) := (by omega)
                            have q104 : 1 < (l1.length : Int) := of_decide_eq_true (by first | (with_reducible assumption) | assumption)
                            obtain ⟨ad104, e104, hx104_0⟩ := Kd.at_int HR1.out 1 p104 q104
                            obtain rfl : ad103 = ad104 := (by injection e104)
                            (try simp only [show (1 : Int).toNat = 1 from rfl, Nat.reduceMul, Nat.reduceEqDiff, Go.Addr.add, ↓reduceIte] at hx104_0)
                            have qi104 : (1 < l1.length) = True := eq_true (by omega)
                            (try rw [show ((1 : Int)).toNat = 1 from rfl] at hx104_0)
                            replace p104 := eq_true p104
                            replace q104 := eq_true q104
                            go_wp2
                            go_ret2
                            exact ⟨by first | rfl | (simp; done) | (simp [*]; done) | (simp [show Go.RowKit.wrap64 0 = 0 by unfold Go.RowKit.wrap64; decide]; done), by repeat (first | exact Drawn0.refl _ | apply Drawn0.step)⟩
                          · rw [if_neg c16] at H
                            have c16b0 : (a0 == 8) = false := beq_eq_false_iff_ne.mpr c16
                            have c16b1 : (a0 != 8) = true := bne_iff_ne.mpr c16
                            by_cases c17 : a0 = 9
                            · rw [if_pos c17] at H
                              have c17b0 : (a0 == 9) = true := beq_iff_eq.mpr c17
                              have c17b1 : (a0 != 9) = false := bne_eq_false_iff_eq.mpr c17
                              clear c17
                              obtain ⟨ji18, hji18⟩ : ∃ j_ : Int, (Go.bits .and .u64 (IntKind.u64.wrap (rd l1 1)) 63) = j_ := ⟨_, rfl⟩
                              replace H : (if 0 ≤ (ji18) then (some (shl .i64 (rd l1 0) (ji18), none)) else (none)) = some (r1, r2) := by first | (rw [hji18] at H; exact H) | (simp only [hji18] at H ⊢; exact H)
                              by_cases c19 : 0 ≤ (ji18)
                              · rw [if_pos c19] at H
                                have c19b0 := eq_true c19
                                have c19b1 : decide (0 ≤ (ji18)) = true := decide_eq_true c19
                                clear c19
                                obtain ⟨ji20, hji20⟩ : ∃ j_ : Int, (shl .i64 (rd l1 0) (ji18)) = j_ := ⟨_, rfl⟩
                                replace H : (some (ji20, none)) = some (r1, r2) := by first | (rw [hji20] at H; exact H) | (simp only [hji20] at H ⊢; exact H)
                                have hji20_ : (IntKind.i64.wrap ((rd l1 0) * 2 ^ min (ji18).toNat 64)) = ji20 := hji20
                                have hji20z : (ji18) ≤ 64 → (IntKind.i64.wrap ((rd l1 0) * 2 ^ (ji18).toNat)) = ji20 := shl_small hji20
                                have hji20y : (wrap64 ((rd l1 0) * 2 ^ min (ji18).toNat 64)) = ji20 := (i64_w _).symm.trans hji20_
                                have hji20x : (ji18) ≤ 64 → (wrap64 ((rd l1 0) * 2 ^ (ji18).toNat)) = ji20 := fun h_ => (i64_w _).symm.trans (hji20z h_)
                                simp only [Option.some.injEq, Prod.mk.injEq] at H
                                obtain ⟨rfl, rfl⟩ := H
                                have p103 : 0 ≤ (0 : Int) := (by omega)
                                have q103 : 0 < (l1.length : Int) := of_decide_eq_true (by first | (with_reducible assumption) | assumption)
                                obtain ⟨ad103, e103, hx103_0⟩ := Kd.at_int HR1.out 0 p103 q103
                                cases e103
                                have qi103 : (0 < l1.length) = True := eq_true (by omega)
                                (try rw [show ((0 : Int)).toNat = 0 from rfl] at hx103_0)
                                (try rw [Addr.add_zero'] at hx103_0)
                                replace p103 := eq_true p103
                                replace q103 := eq_true q103
                                have p104 : 0 ≤ (1 : Int) := (by omega)
                                have q104 : 1 < (l1.length : Int) := of_decide_eq_true (by first | (with_reducible assumption) | assumption)
                                obtain ⟨ad104, e104, hx104_0⟩ := Kd.at_int HR1.out 1 p104 q104
                                obtain rfl : ad103 = ad104 := (by injection e104)
                                (try simp only [show (1 : Int).toNat = 1 from rfl, Nat.reduceMul, Nat.reduceEqDiff, Go.Addr.add, ↓reduceIte] at hx104_0)
                                have qi104 : (1 < l1.length) = True := eq_true (by omega)
                                (try rw [show ((1 : Int)).toNat = 1 from rfl] at hx104_0)
                                replace p104 := eq_true p104
                                replace q104 := eq_true q104
                                go_wp2
                                go_ret2
                                exact ⟨by first | rfl | (simp; done) | (simp only [← hji18, ← hji20] <;> (first | rfl | simp)) | (simp [*]; done), by repeat (first | exact Drawn0.refl _ | apply Drawn0.step)⟩
                              · rw [if_neg c19] at H
                                exact absurd H (by simp)
                            · rw [if_neg c17] at H
                              have c17b0 : (a0 == 9) = false := beq_eq_false_iff_ne.mpr c17
                              have c17b1 : (a0 != 9) = true := bne_iff_ne.mpr c17
                              by_cases c21 : a0 = 10
                              · rw [if_pos c21] at H
                                have c21b0 : (a0 == 10) = true := beq_iff_eq.mpr c21
                                have c21b1 : (a0 != 10) = false := bne_eq_false_iff_eq.mpr c21
                                clear c21
                                obtain ⟨ji22, hji22⟩ : ∃ j_ : Int, (Go.bits .and .u64 (IntKind.u64.wrap (rd l1 1)) 63) = j_ := ⟨_, rfl⟩
                                replace H : (if 0 ≤ (ji22) then (some (shr .i64 (rd l1 0) (ji22), none)) else (none)) = some (r1, r2) := by first | (rw [hji22] at H; exact H) | (simp only [hji22] at H ⊢; exact H)
                                by_cases c23 : 0 ≤ (ji22)
                                · rw [if_pos c23] at H
                                  have c23b0 := eq_true c23
                                  have c23b1 : decide (0 ≤ (ji22)) = true := decide_eq_true c23
                                  clear c23
                                  obtain ⟨ji24, hji24⟩ : ∃ j_ : Int, (shr .i64 (rd l1 0) (ji22)) = j_ := ⟨_, rfl⟩
                                  replace H : (some (ji24, none)) = some (r1, r2) := by first | (rw [hji24] at H; exact H) | (simp only [hji24] at H ⊢; exact H)
                                  have hji24_ : ((rd l1 0) / 2 ^ min (ji22).toNat 64) = ji24 := hji24
                                  have hji24z : (ji22) ≤ 64 → ((rd l1 0) / 2 ^ (ji22).toNat) = ji24 := shr_small hji24
                                  simp only [Option.some.injEq, Prod.mk.injEq] at H
                                  obtain ⟨rfl, rfl⟩ := H
                                  have p103 : 0 ≤ (0 : Int) := (by omega)
                                  have q103 : 0 < (l1.length : Int) := of_decide_eq_true (by first | (with_reducible assumption) | assumption)
                                  obtain ⟨ad103, e103, hx103_0⟩ := Kd.at_int HR1.out 0 p103 q103
                                  cases e103
                                  have qi103 : (0 < l1.length) = True := eq_true (by omega)
                                  (try rw [show ((0 : Int)).toNat = 0 from rfl] at hx103_0)
                                  (try rw [Addr.add_zero'] at hx103_0)
                                  replace p103 := eq_true p103
                                  replace q103 := eq_true q103
                                  have p104 : 0 ≤ (1 : Int) := (by omega)
                                  have q104 : 1 < (l1.length : Int) := of_decide_eq_true (by first | (with_reducible assumption) | assumption)
                                  obtain ⟨ad104, e104, hx104_0⟩ := Kd.at_int HR1.out 1 p104 q104
                                  obtain rfl : ad103 = ad104 := (by injection e104)
                                  (try simp only [show (1 : Int).toNat = 1 from rfl, Nat.reduceMul, Nat.reduceEqDiff, Go.Addr.add, ↓reduceIte] at hx104_0)
                                  have qi104 : (1 < l1.length) = True := eq_true (by omega)
                                  (try rw [show ((1 : Int)).toNat = 1 from rfl] at hx104_0)
                                  replace p104 := eq_true p104
                                  replace q104 := eq_true q104
                                  go_wp2
                                  go_ret2
                                  exact ⟨by first | rfl | (simp; done) | (simp only [← hji22, ← hji24] <;> (first | rfl | simp)) | (simp [*]; done), by repeat (first | exact Drawn0.refl _ | apply Drawn0.step)⟩
                                · rw [if_neg c23] at H
                                  exact absurd H (by simp)
                              · rw [if_neg c21] at H
                                have c21b0 : (a0 == 10) = false := beq_eq_false_iff_ne.mpr c21
                                have c21b1 : (a0 != 10) = true := bne_iff_ne.mpr c21
                                by_cases c25 : a0 = 12
                                · rw [if_pos c25] at H
                                  have c25b0 : (a0 == 12) = true := beq_iff_eq.mpr c25
                                  have c25b1 : (a0 != 12) = false := bne_eq_false_iff_eq.mpr c25
                                  clear c25
                                  replace H := Option.bind_eq_some_iff.mp H
                                  obtain ⟨t105, A260, H⟩ := H
                                  replace H : (some (t105, none)) = some (r1, r2) := H
                                  have A26 := Aside0.mk A260
                                  clear A260
                                  simp only [Option.some.injEq, Prod.mk.injEq] at H
                                  obtain ⟨rfl, rfl⟩ := H
                                  have p103 : 0 ≤ (0 : Int) := (by omega)
                                  have q103 : 0 < (l1.length : Int) := of_decide_eq_true (by first | (with_reducible assumption) | assumption)
                                  obtain ⟨ad103, e103, hx103_0⟩ := Kd.at_int HR1.out 0 p103 q103
                                  cases e103
                                  have qi103 : (0 < l1.length) = True := eq_true (by omega)
                                  (try rw [show ((0 : Int)).toNat = 0 from rfl] at hx103_0)
                                  (try rw [Addr.add_zero'] at hx103_0)
                                  replace p103 := eq_true p103
                                  replace q103 := eq_true q103
                                  have p104 : 0 ≤ (1 : Int) := (by omega)
                                  have q104 : 1 < (l1.length : Int) := of_decide_eq_true (by first | (with_reducible assumption) | assumption)
                                  obtain ⟨ad104, e104, hx104_0⟩ := Kd.at_int HR1.out 1 p104 q104
                                  obtain rfl : ad103 = ad104 := (by injection e104)
                                  (try simp only [show (1 : Int).toNat = 1 from rfl, Nat.reduceMul, Nat.reduceEqDiff, Go.Addr.add, ↓reduceIte] at hx104_0)
                                  have qi104 : (1 < l1.length) = True := eq_true (by omega)
                                  (try rw [show ((1 : Int)).toNat = 1 from rfl] at hx104_0)
                                  replace p104 := eq_true p104
                                  replace q104 := eq_true q104
                                  go_wp2_with (first | ((with_reducible refine gate_callee (f := 18) rfl ?_); refine goesL_ (some 88) rfl rfl Try.func18 (by kernel_rfl) rfl #[.bool (decide ((rd l1 0) < (rd l1 1)))] rfl (by (try simp only [List.map_toArray, List.map_cons, List.map_nil]); first | done | rfl | (simp only [List.length_drop, List.length_take]; rfl)) ?_; (with_reducible refine (arith_bit.calls (decide ((rd l1 0) < (rd l1 1))) t105 _ A26.out).mono ?_); rintro e w' ⟨rfl, ⟨nd, rfl⟩⟩; refine ⟨_, rfl, ?_⟩))
                                  go_ret2
                                  exact ⟨by first | rfl | (simp; done) | (simp [*]; done) | (simp [show Go.RowKit.wrap64 0 = 0 by unfold Go.RowKit.wrap64; decide]; done), by repeat (first | exact Drawn0.refl _ | apply Drawn0.step)⟩
                                · rw [if_neg c25] at H
                                  have c25b0 : (a0 == 12) = false := beq_eq_false_iff_ne.mpr c25
                                  have c25b1 : (a0 != 12) = true := bne_iff_ne.mpr c25
                                  by_cases c27 : a0 = 13
                                  · rw [if_pos c27] at H
                                    have c27b0 : (a0 == 13) = true := beq_iff_eq.mpr c27
                                    have c27b1 : (a0 != 13) = false := bne_eq_false_iff_eq.mpr c27
                                    clear c27
                                    replace H := Option.bind_eq_some_iff.mp H
                                    obtain ⟨t106, A280, H⟩ := H
                                    replace H : (some (t106, none)) = some (r1, r2) := H
                                    have A28 := Aside0.mk A280
                                    clear A280
                                    simp only [Option.some.injEq, Prod.mk.injEq] at H
                                    obtain ⟨rfl, rfl⟩ := H
                                    have p103 : 0 ≤ (0 : Int) := (by omega)
                                    have q103 : 0 < (l1.length : Int) := of_decide_eq_true (by first | (with_reducible assumption) | assumption)
                                    obtain ⟨ad103, e103, hx103_0⟩ := Kd.at_int HR1.out 0 p103 q103
                                    cases e103
                                    have qi103 : (0 < l1.length) = True := eq_true (by omega)
                                    (try rw [show ((0 : Int)).toNat = 0 from rfl] at hx103_0)
                                    (try rw [Addr.add_zero'] at hx103_0)
                                    replace p103 := eq_true p103
                                    replace q103 := eq_true q103
                                    have p104 : 0 ≤ (1 : Int) := (by omega)
                                    have q104 : 1 < (l1.length : Int) := of_decide_eq_true (by first | (with_reducible assumption) | assumption)
                                    obtain ⟨ad104, e104, hx104_0⟩ := Kd.at_int HR1.out 1 p104 q104
                                    obtain rfl : ad103 = ad104 := (by injection e104)
                                    (try simp only [show (1 : Int).toNat = 1 from rfl, Nat.reduceMul, Nat.reduceEqDiff, Go.Addr.add, ↓reduceIte] at hx104_0)
                                    have qi104 : (1 < l1.length) = True := eq_true (by omega)
                                    (try rw [show ((1 : Int)).toNat = 1 from rfl] at hx104_0)
                                    replace p104 := eq_true p104
                                    replace q104 := eq_true q104
                                    go_wp2_with (first | ((with_reducible refine gate_callee (f := 18) rfl ?_); refine goesL_ (some 94) rfl rfl Try.func18 (by kernel_rfl) rfl #[.bool ((rd l1 0) == (rd l1 1))] rfl (by (try simp only [List.map_toArray, List.map_cons, List.map_nil]); first | done | rfl | (simp only [List.length_drop, List.length_take]; rfl)) ?_; (with_reducible refine (arith_bit.calls ((rd l1 0) == (rd l1 1)) t106 _ A28.out).mono ?_); rintro e w' ⟨rfl, ⟨nd, rfl⟩⟩; refine ⟨_, rfl, ?_⟩))
                                    go_ret2
                                    exact ⟨by first | rfl | (simp; done) | (simp [*]; done) | (simp [show Go.RowKit.wrap64 0 = 0 by unfold Go.RowKit.wrap64; decide]; done), by repeat (first | exact Drawn0.refl _ | apply Drawn0.step)⟩
                                  · rw [if_neg c27] at H
                                    have c27b0 : (a0 == 13) = false := beq_eq_false_iff_ne.mpr c27
                                    have c27b1 : (a0 != 13) = true := bne_iff_ne.mpr c27
                                    by_cases c29 : (rd l1 1) = 0
                                    · rw [if_pos c29] at H
                                      have c29b0 : ((rd l1 1) == 0) = true := beq_iff_eq.mpr c29
                                      have c29b1 : ((rd l1 1) != 0) = false := bne_eq_false_iff_eq.mpr c29
                                      clear c29
                                      simp only [Option.some.injEq, Prod.mk.injEq] at H
                                      obtain ⟨rfl, rfl⟩ := H
                                      have p103 : 0 ≤ (0 : Int) := (by omega)
                                      have q103 : 0 < (l1.length : Int) := of_decide_eq_true (by first | (with_reducible assumption) | assumption)
                                      obtain ⟨ad103, e103, hx103_0⟩ := Kd.at_int HR1.out 0 p103 q103
                                      cases e103
                                      have qi103 : (0 < l1.length) = True := eq_true (by omega)
                                      (try rw [show ((0 : Int)).toNat = 0 from rfl] at hx103_0)
                                      (try rw [Addr.add_zero'] at hx103_0)
                                      replace p103 := eq_true p103
                                      replace q103 := eq_true q103
                                      have p104 : 0 ≤ (1 : Int) := (by omega)
                                      have q104 : 1 < (l1.length : Int) := of_decide_eq_true (by first | (with_reducible assumption) | assumption)
                                      obtain ⟨ad104, e104, hx104_0⟩ := Kd.at_int HR1.out 1 p104 q104
                                      obtain rfl : ad103 = ad104 := (by injection e104)
                                      (try simp only [show (1 : Int).toNat = 1 from rfl, Nat.reduceMul, Nat.reduceEqDiff, Go.Addr.add, ↓reduceIte] at hx104_0)
                                      have qi104 : (1 < l1.length) = True := eq_true (by omega)
                                      (try rw [show ((1 : Int)).toNat = 1 from rfl] at hx104_0)
                                      replace p104 := eq_true p104
                                      replace q104 := eq_true q104
                                      go_wp2
                                      go_ret2
                                      exact ⟨by first | rfl | (simp; done) | (simp [*]; done) | (simp [show Go.RowKit.wrap64 0 = 0 by unfold Go.RowKit.wrap64; decide]; done), by repeat (first | exact Drawn0.refl _ | apply Drawn0.step)⟩
                                    · rw [if_neg c29] at H
                                      have c29b0 : ((rd l1 1) == 0) = false := beq_eq_false_iff_ne.mpr c29
                                      have c29b1 : ((rd l1 1) != 0) = true := bne_iff_ne.mpr c29
                                      simp only [Option.some.injEq, Prod.mk.injEq] at H
                                      obtain ⟨rfl, rfl⟩ := H
                                      have p103 : 0 ≤ (0 : Int) := (by omega)
                                      have q103 : 0 < (l1.length : Int) := of_decide_eq_true (by first | (with_reducible assumption) | assumption)
                                      obtain ⟨ad103, e103, hx103_0⟩ := Kd.at_int HR1.out 0 p103 q103
                                      cases e103
                                      have qi103 : (0 < l1.length) = True := eq_true (by omega)
                                      (try rw [show ((0 : Int)).toNat = 0 from rfl] at hx103_0)
                                      (try rw [Addr.add_zero'] at hx103_0)
                                      replace p103 := eq_true p103
                                      replace q103 := eq_true q103
                                      have p104 : 0 ≤ (1 : Int) := (by omega)
                                      have q104 : 1 < (l1.length : Int) := of_decide_eq_true (by first | (with_reducible assumption) | assumption)
                                      obtain ⟨ad104, e104, hx104_0⟩ := Kd.at_int HR1.out 1 p104 q104
                                      obtain rfl : ad103 = ad104 := (by injection e104)
                                      (try simp only [show (1 : Int).toNat = 1 from rfl, Nat.reduceMul, Nat.reduceEqDiff, Go.Addr.add, ↓reduceIte] at hx104_0)
                                      have qi104 : (1 < l1.length) = True := eq_true (by omega)
                                      (try rw [show ((1 : Int)).toNat = 1 from rfl] at hx104_0)
                                      replace p104 := eq_true p104
                                      replace q104 := eq_true q104
                                      go_wp2
                                      go_ret2
                                      exact ⟨by first | rfl | (simp; done) | (simp [*]; done) | (simp [show Go.RowKit.wrap64 0 = 0 by unfold Go.RowKit.wrap64; decide]; done), by repeat (first | exact Drawn0.refl _ | apply Drawn0.step)⟩
              · rw [if_neg c10] at H
                exact absurd H (by simp)
        · rw [if_neg c7] at H
          exact absurd H (by simp)

/-! ### fettlelaw01_up: function 11 -/
def fettlelaw01_up.f (k : Nat)  : Option (Bool) := (arith_Eval.f k 11 (([(-7), 2] : List Int))).bind fun bt110 => ((arith_Eval.f k 11 (([1, 0] : List Int))).bind fun bt115 => (if bt110.2.isNone = true then (if bt110.1 = (-3) then (if bt115.2.isNone = true then (some false) else (some ((bt115.2.getD 0) == 7))) else (some false)) else (some false)))
theorem fettlelaw01_up.mono : ∀ k, LeO (fettlelaw01_up.f k ) (fettlelaw01_up.f (k + 1) ) := by
  intro  k
  unfold fettlelaw01_up.f
  repeat' first
      | (with_reducible exact arith_Eval.mono _ _ _)
      | (with_reducible exact LeO.refl _)
      | (with_reducible exact LeO.none _)
      | (with_reducible refine LeO.ite ?_ ?_)
      | (with_reducible refine LeO.bind ?_ (fun _ => ?_))
      | exact arith_Eval.mono _ _ _
      | exact LeO.none _
      | refine LeO.ite ?_ ?_
      | refine LeO.bind ?_ (fun _ => ?_)
set_option maxHeartbeats 8000000 in
set_option maxRecDepth 100000 in
theorem fettlelaw01_up.calls (k : Nat)  (r : Bool) (w : World) (h : fettlelaw01_up.f k  = some r) :
    Calls Try.prog 11 #[] w fun e w' => e = .returned (.bool r) ∧ Below w.heap.size w w' := by
  have hu25 := Try.underlying25
  have hu29 := Try.underlying29
  have HB := Aside0.mk (Below.refl w.heap.size w)
  have H : ((arith_Eval.f k 11 (([(-7), 2] : List Int))).bind fun bt110 => ((arith_Eval.f k 11 (([1, 0] : List Int))).bind fun bt115 => (if bt110.2.isNone = true then (if bt110.1 = (-3) then (if bt115.2.isNone = true then (some false) else (some ((bt115.2.getD 0) == 7))) else (some false)) else (some false)))) = some r := h
  clear h
  obtain ⟨y107, hy107⟩ : ∃ y_ : List Int, y_ = (([(-7), 2] : List Int)) := ⟨_, rfl⟩
  replace H : ((arith_Eval.f k 11 y107).bind fun bt110 => ((arith_Eval.f k 11 (([1, 0] : List Int))).bind fun bt115 => (if bt110.2.isNone = true then (if bt110.1 = (-3) then (if bt115.2.isNone = true then (some false) else (some ((bt115.2.getD 0) == 7))) else (some false)) else (some false)))) = some r := by first | (rw [hy107]; with_reducible exact H) | (have H2_ := (Option.bind_some _ _).symm.trans H; rw [hy107]; with_reducible exact H2_) | (have H2_ := (Option.bind_some _ _).symm.trans H; with_reducible exact H2_) | with_reducible exact H | (rw [hy107]; exact H) | exact H
  have Ny107 := Aside0.mk hy107
  clear hy107
  replace H := Option.bind_eq_some_iff.mp H
  obtain ⟨⟨t110, t111⟩, A10, H⟩ := H
  replace H : ((arith_Eval.f k 11 (([1, 0] : List Int))).bind fun bt115 => (if t111.isNone = true then (if t110 = (-3) then (if bt115.2.isNone = true then (some false) else (some ((bt115.2.getD 0) == 7))) else (some false)) else (some false))) = some r := H
  have A1 := Aside0.mk A10
  clear A10
  obtain ⟨y112, hy112⟩ : ∃ y_ : List Int, y_ = (([1, 0] : List Int)) := ⟨_, rfl⟩
  replace H : ((arith_Eval.f k 11 y112).bind fun bt115 => (if t111.isNone = true then (if t110 = (-3) then (if bt115.2.isNone = true then (some false) else (some ((bt115.2.getD 0) == 7))) else (some false)) else (some false))) = some r := by first | (rw [hy112]; with_reducible exact H) | (have H2_ := (Option.bind_some _ _).symm.trans H; rw [hy112]; with_reducible exact H2_) | (have H2_ := (Option.bind_some _ _).symm.trans H; with_reducible exact H2_) | with_reducible exact H | (rw [hy112]; exact H) | exact H
  have Ny112 := Aside0.mk hy112
  clear hy112
  replace H := Option.bind_eq_some_iff.mp H
  obtain ⟨⟨t115, t116⟩, A20, H⟩ := H
  replace H : (if t111.isNone = true then (if t110 = (-3) then (if t116.isNone = true then (some false) else (some ((t116.getD 0) == 7))) else (some false)) else (some false)) = some r := H
  have A2 := Aside0.mk A20
  clear A20
  rcases t111 with _ | q117
  · have H1 : (if t110 = (-3) then (if t116.isNone = true then (some false) else (some ((t116.getD 0) == 7))) else (some false)) = some r := by rw [if_pos (show (none : Option Int).isNone = true by rfl)] at H; exact H
    clear H
    have H := H1
    clear H1
    try simp only [errW_none, errW_some]
    by_cases c3 : t110 = (-3)
    · rw [if_pos c3] at H
      have c3b0 : (t110 == (-3)) = true := beq_iff_eq.mpr c3
      have c3b1 : (t110 != (-3)) = false := bne_eq_false_iff_eq.mpr c3
      clear c3
      rcases t116 with _ | q118
      · have H1 : (some false) = some r := by rw [if_pos (show (none : Option Int).isNone = true by rfl)] at H; exact H
        clear H
        have H := H1
        clear H1
        try simp only [errW_none, errW_some]
        obtain rfl := Option.some.inj H
        go_enter Try.func11, Try.ntmps11
        go_wp2_with (first | ((with_reducible refine gate_dst (N := 6) rfl ?_); refine Kd.R_lit (Kd.int .i64) _ 2 ?hg (N := 6) ?hd (xs := ([(-7), 2] : List Int)) (inner := [.int .i64 (-7), .int .i64 2]) (ok := fun _ => True) (okp := fun _ => True) ?hr ?hp (fun _ hk => hk) trivial (Below.refl _ _) (Nat.le_refl _) (by simp) ?_; (case hd => rfl); (case hg => rfl); (case hr => first | (go_simp; done) | (go_simp; rfl)); (case hp => exact (Reps.one (show Kd.M (Kd.int .i64) _ _ _ (-7) [.int .i64 (-7)] from rfl) (Reps.one (show Kd.M (Kd.int .i64) _ _ _ 2 [.int .i64 2] from rfl) (Reps.none _ _)))); intro v108 w4 ho5 hb hg_ hnew_; clear hg_ hnew_; (first | rw [← Ny107.out] at ho5 | (simp only [Int.reduceToNat] at ho5; rw [← Ny107.out] at ho5)); have n0_ := Aside0.mk (Kd.R_lower ho5 (below_size (by repeat (first | (with_reducible first | exact HB.out | apply below_alloc | apply pw_below_drewN | apply below_drew1) | exact HB.out)))); have n1_ := Aside0.mk (below_step (by repeat (first | (with_reducible first | exact HB.out | apply below_alloc | apply pw_below_drewN | apply below_drew1) | exact HB.out)) hb); clear HB; have HO109 := n0_; have HB := n1_; clear n0_ n1_; clear hb ho5; obtain ⟨Ao6, co6, eo6⟩ := Kd.R_slice HO109.out; subst eo6) | ((with_reducible refine gate_callee (f := 12) rfl ?_); refine goesL_ (some 7) rfl rfl Try.func12 (by kernel_rfl) rfl #[.int .i64 11, .slice Ao6 y107.length co6] rfl (by (try simp only [List.map_toArray, List.map_cons, List.map_nil]); first | done | rfl | (simp only [List.length_drop, List.length_take]; rfl)) ?_; (with_reducible refine (arith_Eval.calls k 11 _ _ y107 t110 none _ ?side1 ?side2 A1.out).mono ?_); (case side1 => repeat (first | exact (Kd.R_reads' HO109.out).2.2 | (with_reducible refine Kd.C_alloc ?_ _) | (with_reducible refine Kd.C_drewN ?_ _) | (with_reducible refine Kd.C_drew ?_))); (case side2 => exact (Kd.R_reads' HO109.out).2.1); rintro e w' ⟨rfl, ⟨nd, rfl⟩⟩; refine ⟨_, rfl, ?_⟩; (try simp only [errW_none, errW_some])) | ((with_reducible refine gate_dst (N := 11) rfl ?_); refine Kd.R_lit (Kd.int .i64) _ 2 ?hg (N := 11) ?hd (xs := ([1, 0] : List Int)) (inner := [.int .i64 1, .int .i64 0]) (ok := fun _ => True) (okp := fun _ => True) ?hr ?hp (fun _ hk => hk) trivial (Below.refl _ _) (Nat.le_refl _) (by simp) ?_; (case hd => rfl); (case hg => rfl); (case hr => first | (go_simp; done) | (go_simp; rfl)); (case hp => exact (Reps.one (show Kd.M (Kd.int .i64) _ _ _ 1 [.int .i64 1] from rfl) (Reps.one (show Kd.M (Kd.int .i64) _ _ _ 0 [.int .i64 0] from rfl) (Reps.none _ _)))); intro v113 w7 ho8 hb hg_ hnew_; clear hg_ hnew_; (first | rw [← Ny112.out] at ho8 | (simp only [Int.reduceToNat] at ho8; rw [← Ny112.out] at ho8)); have n0_ := Aside0.mk (Kd.R_elder' (by (with_reducible repeat (first | apply Kd.R_alloc | apply Kd.R_drewN | apply Kd.R_drew)); exact HO109.out) (Kd.R_base ho8) hb); have n1_ := Aside0.mk (Kd.R_lower (Kd.R_new' ho8 (Kd.R_lt (by (with_reducible repeat (first | apply Kd.R_alloc | apply Kd.R_drewN | apply Kd.R_drew)); exact HO109.out))) (below_size (by repeat (first | (with_reducible first | exact HB.out | apply below_alloc | apply pw_below_drewN | apply below_drew1) | exact HB.out)))); have n2_ := Aside0.mk (below_step (by repeat (first | (with_reducible first | exact HB.out | apply below_alloc | apply pw_below_drewN | apply below_drew1) | exact HB.out)) hb); clear HO109; clear HB; have HO109 := n0_; have HO114 := n1_; have HB := n2_; clear n0_ n1_ n2_; clear hb ho8; obtain ⟨Ao9, co9, eo9⟩ := Kd.R_slice HO114.out; subst eo9) | ((with_reducible refine gate_callee (f := 12) rfl ?_); refine goesL_ (some 12) rfl rfl Try.func12 (by kernel_rfl) rfl #[.int .i64 11, .slice Ao9 y112.length co9] rfl (by (try simp only [List.map_toArray, List.map_cons, List.map_nil]); first | done | rfl | (simp only [List.length_drop, List.length_take]; rfl)) ?_; (with_reducible refine (arith_Eval.calls k 11 _ _ y112 t115 none _ ?side1 ?side2 A2.out).mono ?_); (case side1 => repeat (first | exact (Kd.R_reads' HO114.out).2.2 | (with_reducible refine Kd.C_alloc ?_ _) | (with_reducible refine Kd.C_drewN ?_ _) | (with_reducible refine Kd.C_drew ?_))); (case side2 => exact (Kd.R_reads' HO114.out).2.1); rintro e w' ⟨rfl, ⟨nd, rfl⟩⟩; refine ⟨_, rfl, ?_⟩; (try simp only [errW_none, errW_some])))
        go_ret
        exact ⟨by first | rfl | (simp [errW_none, errW_some] <;> rfl) | (simp [*, errW_none, errW_some] <;> rfl), by repeat (first | (with_reducible first | exact HB.out | apply below_alloc | apply pw_below_drewN | apply below_drew1) | exact HB.out)⟩
      · have H1 : (some (q118 == 7)) = some r := by rw [if_neg (show ¬ (some q118).isNone = true by simp)] at H; exact H
        clear H
        have H := H1
        clear H1
        try simp only [errW_none, errW_some]
        obtain rfl := Option.some.inj H
        go_enter Try.func11, Try.ntmps11
        go_wp2_with (first | ((with_reducible refine gate_dst (N := 6) rfl ?_); refine Kd.R_lit (Kd.int .i64) _ 2 ?hg (N := 6) ?hd (xs := ([(-7), 2] : List Int)) (inner := [.int .i64 (-7), .int .i64 2]) (ok := fun _ => True) (okp := fun _ => True) ?hr ?hp (fun _ hk => hk) trivial (Below.refl _ _) (Nat.le_refl _) (by simp) ?_; (case hd => rfl); (case hg => rfl); (case hr => first | (go_simp; done) | (go_simp; rfl)); (case hp => exact (Reps.one (show Kd.M (Kd.int .i64) _ _ _ (-7) [.int .i64 (-7)] from rfl) (Reps.one (show Kd.M (Kd.int .i64) _ _ _ 2 [.int .i64 2] from rfl) (Reps.none _ _)))); intro v108 w10 ho11 hb hg_ hnew_; clear hg_ hnew_; (first | rw [← Ny107.out] at ho11 | (simp only [Int.reduceToNat] at ho11; rw [← Ny107.out] at ho11)); have n0_ := Aside0.mk (Kd.R_lower ho11 (below_size (by repeat (first | (with_reducible first | exact HB.out | apply below_alloc | apply pw_below_drewN | apply below_drew1) | exact HB.out)))); have n1_ := Aside0.mk (below_step (by repeat (first | (with_reducible first | exact HB.out | apply below_alloc | apply pw_below_drewN | apply below_drew1) | exact HB.out)) hb); clear HB; have HO109 := n0_; have HB := n1_; clear n0_ n1_; clear hb ho11; obtain ⟨Ao12, co12, eo12⟩ := Kd.R_slice HO109.out; subst eo12) | ((with_reducible refine gate_callee (f := 12) rfl ?_); refine goesL_ (some 7) rfl rfl Try.func12 (by kernel_rfl) rfl #[.int .i64 11, .slice Ao12 y107.length co12] rfl (by (try simp only [List.map_toArray, List.map_cons, List.map_nil]); first | done | rfl | (simp only [List.length_drop, List.length_take]; rfl)) ?_; (with_reducible refine (arith_Eval.calls k 11 _ _ y107 t110 none _ ?side1 ?side2 A1.out).mono ?_); (case side1 => repeat (first | exact (Kd.R_reads' HO109.out).2.2 | (with_reducible refine Kd.C_alloc ?_ _) | (with_reducible refine Kd.C_drewN ?_ _) | (with_reducible refine Kd.C_drew ?_))); (case side2 => exact (Kd.R_reads' HO109.out).2.1); rintro e w' ⟨rfl, ⟨nd, rfl⟩⟩; refine ⟨_, rfl, ?_⟩; (try simp only [errW_none, errW_some])) | ((with_reducible refine gate_dst (N := 11) rfl ?_); refine Kd.R_lit (Kd.int .i64) _ 2 ?hg (N := 11) ?hd (xs := ([1, 0] : List Int)) (inner := [.int .i64 1, .int .i64 0]) (ok := fun _ => True) (okp := fun _ => True) ?hr ?hp (fun _ hk => hk) trivial (Below.refl _ _) (Nat.le_refl _) (by simp) ?_; (case hd => rfl); (case hg => rfl); (case hr => first | (go_simp; done) | (go_simp; rfl)); (case hp => exact (Reps.one (show Kd.M (Kd.int .i64) _ _ _ 1 [.int .i64 1] from rfl) (Reps.one (show Kd.M (Kd.int .i64) _ _ _ 0 [.int .i64 0] from rfl) (Reps.none _ _)))); intro v113 w13 ho14 hb hg_ hnew_; clear hg_ hnew_; (first | rw [← Ny112.out] at ho14 | (simp only [Int.reduceToNat] at ho14; rw [← Ny112.out] at ho14)); have n0_ := Aside0.mk (Kd.R_elder' (by (with_reducible repeat (first | apply Kd.R_alloc | apply Kd.R_drewN | apply Kd.R_drew)); exact HO109.out) (Kd.R_base ho14) hb); have n1_ := Aside0.mk (Kd.R_lower (Kd.R_new' ho14 (Kd.R_lt (by (with_reducible repeat (first | apply Kd.R_alloc | apply Kd.R_drewN | apply Kd.R_drew)); exact HO109.out))) (below_size (by repeat (first | (with_reducible first | exact HB.out | apply below_alloc | apply pw_below_drewN | apply below_drew1) | exact HB.out)))); have n2_ := Aside0.mk (below_step (by repeat (first | (with_reducible first | exact HB.out | apply below_alloc | apply pw_below_drewN | apply below_drew1) | exact HB.out)) hb); clear HO109; clear HB; have HO109 := n0_; have HO114 := n1_; have HB := n2_; clear n0_ n1_ n2_; clear hb ho14; obtain ⟨Ao15, co15, eo15⟩ := Kd.R_slice HO114.out; subst eo15) | ((with_reducible refine gate_callee (f := 12) rfl ?_); refine goesL_ (some 12) rfl rfl Try.func12 (by kernel_rfl) rfl #[.int .i64 11, .slice Ao15 y112.length co15] rfl (by (try simp only [List.map_toArray, List.map_cons, List.map_nil]); first | done | rfl | (simp only [List.length_drop, List.length_take]; rfl)) ?_; (with_reducible refine (arith_Eval.calls k 11 _ _ y112 t115 (some q118) _ ?side1 ?side2 A2.out).mono ?_); (case side1 => repeat (first | exact (Kd.R_reads' HO114.out).2.2 | (with_reducible refine Kd.C_alloc ?_ _) | (with_reducible refine Kd.C_drewN ?_ _) | (with_reducible refine Kd.C_drew ?_))); (case side2 => exact (Kd.R_reads' HO114.out).2.1); rintro e w' ⟨rfl, ⟨nd, rfl⟩⟩; refine ⟨_, rfl, ?_⟩; (try simp only [errW_none, errW_some])))
        go_ret
        exact ⟨by first | rfl | (simp [errW_none, errW_some] <;> rfl) | (simp [*, errW_none, errW_some] <;> rfl), by repeat (first | (with_reducible first | exact HB.out | apply below_alloc | apply pw_below_drewN | apply below_drew1) | exact HB.out)⟩
    · rw [if_neg c3] at H
      have c3b0 : (t110 == (-3)) = false := beq_eq_false_iff_ne.mpr c3
      have c3b1 : (t110 != (-3)) = true := bne_iff_ne.mpr c3
      obtain rfl := Option.some.inj H
      go_enter Try.func11, Try.ntmps11
      go_wp2_with (first | ((with_reducible refine gate_dst (N := 6) rfl ?_); refine Kd.R_lit (Kd.int .i64) _ 2 ?hg (N := 6) ?hd (xs := ([(-7), 2] : List Int)) (inner := [.int .i64 (-7), .int .i64 2]) (ok := fun _ => True) (okp := fun _ => True) ?hr ?hp (fun _ hk => hk) trivial (Below.refl _ _) (Nat.le_refl _) (by simp) ?_; (case hd => rfl); (case hg => rfl); (case hr => first | (go_simp; done) | (go_simp; rfl)); (case hp => exact (Reps.one (show Kd.M (Kd.int .i64) _ _ _ (-7) [.int .i64 (-7)] from rfl) (Reps.one (show Kd.M (Kd.int .i64) _ _ _ 2 [.int .i64 2] from rfl) (Reps.none _ _)))); intro v108 w16 ho17 hb hg_ hnew_; clear hg_ hnew_; (first | rw [← Ny107.out] at ho17 | (simp only [Int.reduceToNat] at ho17; rw [← Ny107.out] at ho17)); have n0_ := Aside0.mk (Kd.R_lower ho17 (below_size (by repeat (first | (with_reducible first | exact HB.out | apply below_alloc | apply pw_below_drewN | apply below_drew1) | exact HB.out)))); have n1_ := Aside0.mk (below_step (by repeat (first | (with_reducible first | exact HB.out | apply below_alloc | apply pw_below_drewN | apply below_drew1) | exact HB.out)) hb); clear HB; have HO109 := n0_; have HB := n1_; clear n0_ n1_; clear hb ho17; obtain ⟨Ao18, co18, eo18⟩ := Kd.R_slice HO109.out; subst eo18) | ((with_reducible refine gate_callee (f := 12) rfl ?_); refine goesL_ (some 7) rfl rfl Try.func12 (by kernel_rfl) rfl #[.int .i64 11, .slice Ao18 y107.length co18] rfl (by (try simp only [List.map_toArray, List.map_cons, List.map_nil]); first | done | rfl | (simp only [List.length_drop, List.length_take]; rfl)) ?_; (with_reducible refine (arith_Eval.calls k 11 _ _ y107 t110 none _ ?side1 ?side2 A1.out).mono ?_); (case side1 => repeat (first | exact (Kd.R_reads' HO109.out).2.2 | (with_reducible refine Kd.C_alloc ?_ _) | (with_reducible refine Kd.C_drewN ?_ _) | (with_reducible refine Kd.C_drew ?_))); (case side2 => exact (Kd.R_reads' HO109.out).2.1); rintro e w' ⟨rfl, ⟨nd, rfl⟩⟩; refine ⟨_, rfl, ?_⟩; (try simp only [errW_none, errW_some])) | ((with_reducible refine gate_dst (N := 11) rfl ?_); refine Kd.R_lit (Kd.int .i64) _ 2 ?hg (N := 11) ?hd (xs := ([1, 0] : List Int)) (inner := [.int .i64 1, .int .i64 0]) (ok := fun _ => True) (okp := fun _ => True) ?hr ?hp (fun _ hk => hk) trivial (Below.refl _ _) (Nat.le_refl _) (by simp) ?_; (case hd => rfl); (case hg => rfl); (case hr => first | (go_simp; done) | (go_simp; rfl)); (case hp => exact (Reps.one (show Kd.M (Kd.int .i64) _ _ _ 1 [.int .i64 1] from rfl) (Reps.one (show Kd.M (Kd.int .i64) _ _ _ 0 [.int .i64 0] from rfl) (Reps.none _ _)))); intro v113 w19 ho20 hb hg_ hnew_; clear hg_ hnew_; (first | rw [← Ny112.out] at ho20 | (simp only [Int.reduceToNat] at ho20; rw [← Ny112.out] at ho20)); have n0_ := Aside0.mk (Kd.R_elder' (by (with_reducible repeat (first | apply Kd.R_alloc | apply Kd.R_drewN | apply Kd.R_drew)); exact HO109.out) (Kd.R_base ho20) hb); have n1_ := Aside0.mk (Kd.R_lower (Kd.R_new' ho20 (Kd.R_lt (by (with_reducible repeat (first | apply Kd.R_alloc | apply Kd.R_drewN | apply Kd.R_drew)); exact HO109.out))) (below_size (by repeat (first | (with_reducible first | exact HB.out | apply below_alloc | apply pw_below_drewN | apply below_drew1) | exact HB.out)))); have n2_ := Aside0.mk (below_step (by repeat (first | (with_reducible first | exact HB.out | apply below_alloc | apply pw_below_drewN | apply below_drew1) | exact HB.out)) hb); clear HO109; clear HB; have HO109 := n0_; have HO114 := n1_; have HB := n2_; clear n0_ n1_ n2_; clear hb ho20; obtain ⟨Ao21, co21, eo21⟩ := Kd.R_slice HO114.out; subst eo21) | ((with_reducible refine gate_callee (f := 12) rfl ?_); refine goesL_ (some 12) rfl rfl Try.func12 (by kernel_rfl) rfl #[.int .i64 11, .slice Ao21 y112.length co21] rfl (by (try simp only [List.map_toArray, List.map_cons, List.map_nil]); first | done | rfl | (simp only [List.length_drop, List.length_take]; rfl)) ?_; (with_reducible refine (arith_Eval.calls k 11 _ _ y112 t115 t116 _ ?side1 ?side2 A2.out).mono ?_); (case side1 => repeat (first | exact (Kd.R_reads' HO114.out).2.2 | (with_reducible refine Kd.C_alloc ?_ _) | (with_reducible refine Kd.C_drewN ?_ _) | (with_reducible refine Kd.C_drew ?_))); (case side2 => exact (Kd.R_reads' HO114.out).2.1); rintro e w' ⟨rfl, ⟨nd, rfl⟩⟩; refine ⟨_, rfl, ?_⟩; (try simp only [errW_none, errW_some])))
      go_ret
      exact ⟨by first | rfl | (simp [errW_none, errW_some] <;> rfl) | (simp [*, errW_none, errW_some] <;> rfl), by repeat (first | (with_reducible first | exact HB.out | apply below_alloc | apply pw_below_drewN | apply below_drew1) | exact HB.out)⟩
  · have H1 : (some false) = some r := by rw [if_neg (show ¬ (some q117).isNone = true by simp)] at H; exact H
    clear H
    have H := H1
    clear H1
    try simp only [errW_none, errW_some]
    obtain rfl := Option.some.inj H
    go_enter Try.func11, Try.ntmps11
    go_wp2_with (first | ((with_reducible refine gate_dst (N := 6) rfl ?_); refine Kd.R_lit (Kd.int .i64) _ 2 ?hg (N := 6) ?hd (xs := ([(-7), 2] : List Int)) (inner := [.int .i64 (-7), .int .i64 2]) (ok := fun _ => True) (okp := fun _ => True) ?hr ?hp (fun _ hk => hk) trivial (Below.refl _ _) (Nat.le_refl _) (by simp) ?_; (case hd => rfl); (case hg => rfl); (case hr => first | (go_simp; done) | (go_simp; rfl)); (case hp => exact (Reps.one (show Kd.M (Kd.int .i64) _ _ _ (-7) [.int .i64 (-7)] from rfl) (Reps.one (show Kd.M (Kd.int .i64) _ _ _ 2 [.int .i64 2] from rfl) (Reps.none _ _)))); intro v108 w22 ho23 hb hg_ hnew_; clear hg_ hnew_; (first | rw [← Ny107.out] at ho23 | (simp only [Int.reduceToNat] at ho23; rw [← Ny107.out] at ho23)); have n0_ := Aside0.mk (Kd.R_lower ho23 (below_size (by repeat (first | (with_reducible first | exact HB.out | apply below_alloc | apply pw_below_drewN | apply below_drew1) | exact HB.out)))); have n1_ := Aside0.mk (below_step (by repeat (first | (with_reducible first | exact HB.out | apply below_alloc | apply pw_below_drewN | apply below_drew1) | exact HB.out)) hb); clear HB; have HO109 := n0_; have HB := n1_; clear n0_ n1_; clear hb ho23; obtain ⟨Ao24, co24, eo24⟩ := Kd.R_slice HO109.out; subst eo24) | ((with_reducible refine gate_callee (f := 12) rfl ?_); refine goesL_ (some 7) rfl rfl Try.func12 (by kernel_rfl) rfl #[.int .i64 11, .slice Ao24 y107.length co24] rfl (by (try simp only [List.map_toArray, List.map_cons, List.map_nil]); first | done | rfl | (simp only [List.length_drop, List.length_take]; rfl)) ?_; (with_reducible refine (arith_Eval.calls k 11 _ _ y107 t110 (some q117) _ ?side1 ?side2 A1.out).mono ?_); (case side1 => repeat (first | exact (Kd.R_reads' HO109.out).2.2 | (with_reducible refine Kd.C_alloc ?_ _) | (with_reducible refine Kd.C_drewN ?_ _) | (with_reducible refine Kd.C_drew ?_))); (case side2 => exact (Kd.R_reads' HO109.out).2.1); rintro e w' ⟨rfl, ⟨nd, rfl⟩⟩; refine ⟨_, rfl, ?_⟩; (try simp only [errW_none, errW_some])) | ((with_reducible refine gate_dst (N := 11) rfl ?_); refine Kd.R_lit (Kd.int .i64) _ 2 ?hg (N := 11) ?hd (xs := ([1, 0] : List Int)) (inner := [.int .i64 1, .int .i64 0]) (ok := fun _ => True) (okp := fun _ => True) ?hr ?hp (fun _ hk => hk) trivial (Below.refl _ _) (Nat.le_refl _) (by simp) ?_; (case hd => rfl); (case hg => rfl); (case hr => first | (go_simp; done) | (go_simp; rfl)); (case hp => exact (Reps.one (show Kd.M (Kd.int .i64) _ _ _ 1 [.int .i64 1] from rfl) (Reps.one (show Kd.M (Kd.int .i64) _ _ _ 0 [.int .i64 0] from rfl) (Reps.none _ _)))); intro v113 w25 ho26 hb hg_ hnew_; clear hg_ hnew_; (first | rw [← Ny112.out] at ho26 | (simp only [Int.reduceToNat] at ho26; rw [← Ny112.out] at ho26)); have n0_ := Aside0.mk (Kd.R_elder' (by (with_reducible repeat (first | apply Kd.R_alloc | apply Kd.R_drewN | apply Kd.R_drew)); exact HO109.out) (Kd.R_base ho26) hb); have n1_ := Aside0.mk (Kd.R_lower (Kd.R_new' ho26 (Kd.R_lt (by (with_reducible repeat (first | apply Kd.R_alloc | apply Kd.R_drewN | apply Kd.R_drew)); exact HO109.out))) (below_size (by repeat (first | (with_reducible first | exact HB.out | apply below_alloc | apply pw_below_drewN | apply below_drew1) | exact HB.out)))); have n2_ := Aside0.mk (below_step (by repeat (first | (with_reducible first | exact HB.out | apply below_alloc | apply pw_below_drewN | apply below_drew1) | exact HB.out)) hb); clear HO109; clear HB; have HO109 := n0_; have HO114 := n1_; have HB := n2_; clear n0_ n1_ n2_; clear hb ho26; obtain ⟨Ao27, co27, eo27⟩ := Kd.R_slice HO114.out; subst eo27) | ((with_reducible refine gate_callee (f := 12) rfl ?_); refine goesL_ (some 12) rfl rfl Try.func12 (by kernel_rfl) rfl #[.int .i64 11, .slice Ao27 y112.length co27] rfl (by (try simp only [List.map_toArray, List.map_cons, List.map_nil]); first | done | rfl | (simp only [List.length_drop, List.length_take]; rfl)) ?_; (with_reducible refine (arith_Eval.calls k 11 _ _ y112 t115 t116 _ ?side1 ?side2 A2.out).mono ?_); (case side1 => repeat (first | exact (Kd.R_reads' HO114.out).2.2 | (with_reducible refine Kd.C_alloc ?_ _) | (with_reducible refine Kd.C_drewN ?_ _) | (with_reducible refine Kd.C_drew ?_))); (case side2 => exact (Kd.R_reads' HO114.out).2.1); rintro e w' ⟨rfl, ⟨nd, rfl⟩⟩; refine ⟨_, rfl, ?_⟩; (try simp only [errW_none, errW_some])))
    go_ret
    exact ⟨by first | rfl | (simp [errW_none, errW_some] <;> rfl) | (simp [*, errW_none, errW_some] <;> rfl), by repeat (first | (with_reducible first | exact HB.out | apply below_alloc | apply pw_below_drewN | apply below_drew1) | exact HB.out)⟩

end Go.Proofs.Ytenlbbookiopiaa.PArithEvals
