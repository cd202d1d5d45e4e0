-- Laid by a program of this session (wip/pp/patch.py over the kit's print).
import Derived.Test.YtenlbbookiopiaaPArithEvalsx0
namespace Go.Proofs.Ytenlbbookiopiaa.PArithEvals
open Go.RowKit Go.Proofs.YtenlbbookiopiaaW.PrintWords Go.Proofs.YtenlbbookiopiaaW.PrintLast Go.Proofs.YtenlbbookiopiaaW.PrintMore
attribute [local go_sem] max2_int min2_int max_two min_two max_three min_three max_four min_four   -- for this text's walks alone
attribute [local go_sem] eqErr25 neErr25 nilErr25
set_option linter.unusedVariables false
set_option linter.unusedSimpArgs false

/-! ### fettleref01_Args: function 13 -/
def fettleref01_Args.j0 : Nat → Int → Bool → Option (Int)
  | 0, _, _ => none
  | k + 1, x3, x4 => if x4 = true then (some 1) else (if x3 = 3 then (some 2) else (if x3 = 4 then (some 2) else (if x3 = 5 then (some 2) else (if x3 = 6 then (some 2) else (if x3 = 7 then (some 2) else (if x3 = 8 then (some 2) else (if x3 = 9 then (some 2) else (if x3 = 10 then (some 2) else (if x3 = 11 then (some 2) else (if x3 = 12 then (some 2) else (if x3 = 13 then (some 2) else (some (-1)))))))))))))
def fettleref01_Args.f (k : Nat) (a0 : Int) : Option (Int) := if a0 = 2 then (fettleref01_Args.j0 k a0 (a0 == 2)) else (fettleref01_Args.j0 k a0 (a0 == 14))
theorem fettleref01_Args.mono_l : ∀ k, (∀ y0 y1, LeO (fettleref01_Args.j0 k y0 y1) (fettleref01_Args.j0 (k + 1) y0 y1))
  | 0 => fun _ _ r h => by simp [fettleref01_Args.j0] at h
  | k + 1 => by
    have ih0 := fettleref01_Args.mono_l k
    · intro y0 y1
      unfold fettleref01_Args.j0
      repeat' first
      | (with_reducible exact ih0 _ _)
      | (with_reducible exact LeO.refl _)
      | (with_reducible exact LeO.none _)
      | (with_reducible refine LeO.ite ?_ ?_)
      | (with_reducible refine LeO.bind ?_ (fun _ => ?_))
      | exact ih0 _ _
      | exact LeO.none _
      | refine LeO.ite ?_ ?_
      | refine LeO.bind ?_ (fun _ => ?_)
theorem fettleref01_Args.mono : ∀ a0 k, LeO (fettleref01_Args.f k a0) (fettleref01_Args.f (k + 1) a0) := by
  intro a0 k
  have ih0 := fettleref01_Args.mono_l k
  unfold fettleref01_Args.f
  repeat' first
      | (with_reducible exact ih0 _ _)
      | (with_reducible exact LeO.refl _)
      | (with_reducible exact LeO.none _)
      | (with_reducible refine LeO.ite ?_ ?_)
      | (with_reducible refine LeO.bind ?_ (fun _ => ?_))
      | exact ih0 _ _
      | exact LeO.none _
      | refine LeO.ite ?_ ?_
      | refine LeO.bind ?_ (fun _ => ?_)
set_option maxHeartbeats 8000000 in
set_option maxRecDepth 100000 in
theorem fettleref01_Args.calls (k : Nat) (a0 : Int) (r : Int) (w : World) (h : fettleref01_Args.f k a0 = some r) :
    Calls Try.prog 13 #[.int .i64 a0] w fun e w' => e = .returned (.int .i64 r) ∧ Drawn0 w w' := by
  have H : (if a0 = 2 then (fettleref01_Args.j0 k a0 (a0 == 2)) else (fettleref01_Args.j0 k a0 (a0 == 14))) = some r := h
  clear h
  have HC2 := Aside0.mk H
  clear H
  go_enter Try.func13, Try.ntmps13
  go_upto_if 4 with (fail)
  go_cut [4] (fun v4 wc => ∃ (kq : Nat) (x4_1 : Bool), v4 = .bool x4_1 ∧ Aside0 (fettleref01_Args.j0 kq a0 x4_1 = some r) ∧ Aside0 (kq ≤ k) ∧ Drawn0 w wc)
  case first =>
    have H := HC2.out
    clear HC2
    by_cases c3 : a0 = 2
    · rw [if_pos c3] at H
      have c3b0 : (a0 == 2) = true := beq_iff_eq.mpr c3
      have c3b1 : (a0 != 2) = false := bne_eq_false_iff_eq.mpr c3
      clear c3
      (first | rw [c3b0] | (simp only [i64_w, i32_w]; rw [c3b0]) | skip)
      have H' := Aside0.mk H
      clear H
      go_wp2
      go_meet
      case rel => exact ⟨_, ((a0 == 2)), (by first | rfl | (simp; done) | (simp [*]; done)), H', ⟨by first | omega | exact Nat.le_refl _⟩, by repeat (first | exact Drawn0.refl _ | apply Drawn0.step)⟩
    · rw [if_neg c3] at H
      have c3b0 : (a0 == 2) = false := beq_eq_false_iff_ne.mpr c3
      have c3b1 : (a0 != 2) = true := bne_iff_ne.mpr c3
      (first | rw [c3b0] | (simp only [i64_w, i32_w]; rw [c3b0]) | skip)
      have H' := Aside0.mk H
      clear H
      go_wp2
      go_meet
      case rel => exact ⟨_, ((a0 == 14)), (by first | rfl | (simp; done) | (simp [*]; done)), H', ⟨by first | omega | exact Nat.le_refl _⟩, by repeat (first | exact Drawn0.refl _ | apply Drawn0.step)⟩
  case rest =>
    clear HC2
    try clear c1
    try clear p2
    try clear c3
    try clear c3b0
    try clear c3b1
    obtain ⟨kq, x4_1, rfl, HA, HJ1, ⟨mc1, rfl⟩⟩ := hcut
    cases kq with
    | zero => exact absurd HA.out (by simp [fettleref01_Args.j0])
    | succ kj1 =>
      have H := HA.out
      clear HA
      simp only [fettleref01_Args.j0] at H
      by_cases c4 : x4_1 = true
      · subst c4
        have H1 : (some 1) = some r := by rw [if_pos rfl] at H; exact H
        clear H
        have H := H1
        clear H1
        obtain rfl := Option.some.inj H
        go_wp2
        go_ret
        exact ⟨by first | rfl | (simp; done) | (simp [*]; done) | (simp [show Go.RowKit.wrap64 0 = 0 by unfold Go.RowKit.wrap64; decide]; done), by repeat (first | exact Drawn0.refl _ | apply Drawn0.step)⟩
      · replace c4 := Bool.eq_false_iff.mpr c4
        subst c4
        have H1 : (if a0 = 3 then (some 2) else (if a0 = 4 then (some 2) else (if a0 = 5 then (some 2) else (if a0 = 6 then (some 2) else (if a0 = 7 then (some 2) else (if a0 = 8 then (some 2) else (if a0 = 9 then (some 2) else (if a0 = 10 then (some 2) else (if a0 = 11 then (some 2) else (if a0 = 12 then (some 2) else (if a0 = 13 then (some 2) else (some (-1))))))))))))) = some r := by rw [if_neg (show ¬ (false = true) by decide)] at H; exact H
        clear H
        have H := H1
        clear H1
        by_cases c5 : a0 = 3
        · rw [if_pos c5] at H
          have c5b0 : (a0 == 3) = true := beq_iff_eq.mpr c5
          have c5b1 : (a0 != 3) = false := bne_eq_false_iff_eq.mpr c5
          clear c5
          obtain rfl := Option.some.inj H
          go_wp2
          go_ret
          exact ⟨by first | rfl | (simp; done) | (simp [*]; done) | (simp [show Go.RowKit.wrap64 0 = 0 by unfold Go.RowKit.wrap64; decide]; done), by repeat (first | exact Drawn0.refl _ | apply Drawn0.step)⟩
        · rw [if_neg c5] at H
          have c5b0 : (a0 == 3) = false := beq_eq_false_iff_ne.mpr c5
          have c5b1 : (a0 != 3) = true := bne_iff_ne.mpr c5
          by_cases c6 : a0 = 4
          · rw [if_pos c6] at H
            have c6b0 : (a0 == 4) = true := beq_iff_eq.mpr c6
            have c6b1 : (a0 != 4) = false := bne_eq_false_iff_eq.mpr c6
            clear c6
            obtain rfl := Option.some.inj H
            go_wp2
            go_ret
            exact ⟨by first | rfl | (simp; done) | (simp [*]; done) | (simp [show Go.RowKit.wrap64 0 = 0 by unfold Go.RowKit.wrap64; decide]; done), by repeat (first | exact Drawn0.refl _ | apply Drawn0.step)⟩
          · rw [if_neg c6] at H
            have c6b0 : (a0 == 4) = false := beq_eq_false_iff_ne.mpr c6
            have c6b1 : (a0 != 4) = true := bne_iff_ne.mpr c6
            by_cases c7 : a0 = 5
            · rw [if_pos c7] at H
              have c7b0 : (a0 == 5) = true := beq_iff_eq.mpr c7
              have c7b1 : (a0 != 5) = false := bne_eq_false_iff_eq.mpr c7
              clear c7
              obtain rfl := Option.some.inj H
              go_wp2
              go_ret
              exact ⟨by first | rfl | (simp; done) | (simp [*]; done) | (simp [show Go.RowKit.wrap64 0 = 0 by unfold Go.RowKit.wrap64; decide]; done), by repeat (first | exact Drawn0.refl _ | apply Drawn0.step)⟩
            · rw [if_neg c7] at H
              have c7b0 : (a0 == 5) = false := beq_eq_false_iff_ne.mpr c7
              have c7b1 : (a0 != 5) = true := bne_iff_ne.mpr c7
              by_cases c8 : a0 = 6
              · rw [if_pos c8] at H
                have c8b0 : (a0 == 6) = true := beq_iff_eq.mpr c8
                have c8b1 : (a0 != 6) = false := bne_eq_false_iff_eq.mpr c8
                clear c8
                obtain rfl := Option.some.inj H
                go_wp2
                go_ret
                exact ⟨by first | rfl | (simp; done) | (simp [*]; done) | (simp [show Go.RowKit.wrap64 0 = 0 by unfold Go.RowKit.wrap64; decide]; done), by repeat (first | exact Drawn0.refl _ | apply Drawn0.step)⟩
              · rw [if_neg c8] at H
                have c8b0 : (a0 == 6) = false := beq_eq_false_iff_ne.mpr c8
                have c8b1 : (a0 != 6) = true := bne_iff_ne.mpr c8
                by_cases c9 : a0 = 7
                · rw [if_pos c9] at H
                  have c9b0 : (a0 == 7) = true := beq_iff_eq.mpr c9
                  have c9b1 : (a0 != 7) = false := bne_eq_false_iff_eq.mpr c9
                  clear c9
                  obtain rfl := Option.some.inj H
                  go_wp2
                  go_ret
                  exact ⟨by first | rfl | (simp; done) | (simp [*]; done) | (simp [show Go.RowKit.wrap64 0 = 0 by unfold Go.RowKit.wrap64; decide]; done), by repeat (first | exact Drawn0.refl _ | apply Drawn0.step)⟩
                · rw [if_neg c9] at H
                  have c9b0 : (a0 == 7) = false := beq_eq_false_iff_ne.mpr c9
                  have c9b1 : (a0 != 7) = true := bne_iff_ne.mpr c9
                  by_cases c10 : a0 = 8
                  · rw [if_pos c10] at H
                    have c10b0 : (a0 == 8) = true := beq_iff_eq.mpr c10
                    have c10b1 : (a0 != 8) = false := bne_eq_false_iff_eq.mpr c10
                    clear c10
                    obtain rfl := Option.some.inj H
                    go_wp2
                    go_ret
                    exact ⟨by first | rfl | (simp; done) | (simp [*]; done) | (simp [show Go.RowKit.wrap64 0 = 0 by unfold Go.RowKit.wrap64; decide]; done), by repeat (first | exact Drawn0.refl _ | apply Drawn0.step)⟩
                  · rw [if_neg c10] at H
                    have c10b0 : (a0 == 8) = false := beq_eq_false_iff_ne.mpr c10
                    have c10b1 : (a0 != 8) = true := bne_iff_ne.mpr c10
                    by_cases c11 : a0 = 9
                    · rw [if_pos c11] at H
                      have c11b0 : (a0 == 9) = true := beq_iff_eq.mpr c11
                      have c11b1 : (a0 != 9) = false := bne_eq_false_iff_eq.mpr c11
                      clear c11
                      obtain rfl := Option.some.inj H
                      go_wp2
                      go_ret
                      exact ⟨by first | rfl | (simp; done) | (simp [*]; done) | (simp [show Go.RowKit.wrap64 0 = 0 by unfold Go.RowKit.wrap64; decide]; done), by repeat (first | exact Drawn0.refl _ | apply Drawn0.step)⟩
                    · rw [if_neg c11] at H
                      have c11b0 : (a0 == 9) = false := beq_eq_false_iff_ne.mpr c11
                      have c11b1 : (a0 != 9) = true := bne_iff_ne.mpr c11
                      by_cases c12 : a0 = 10
                      · rw [if_pos c12] at H
                        have c12b0 : (a0 == 10) = true := beq_iff_eq.mpr c12
                        have c12b1 : (a0 != 10) = false := bne_eq_false_iff_eq.mpr c12
                        clear c12
                        obtain rfl := Option.some.inj H
                        go_wp2
                        go_ret
                        exact ⟨by first | rfl | (simp; done) | (simp [*]; done) | (simp [show Go.RowKit.wrap64 0 = 0 by unfold Go.RowKit.wrap64; decide]; done), by repeat (first | exact Drawn0.refl _ | apply Drawn0.step)⟩
                      · rw [if_neg c12] at H
                        have c12b0 : (a0 == 10) = false := beq_eq_false_iff_ne.mpr c12
                        have c12b1 : (a0 != 10) = true := bne_iff_ne.mpr c12
                        by_cases c13 : a0 = 11
                        · rw [if_pos c13] at H
                          have c13b0 : (a0 == 11) = true := beq_iff_eq.mpr c13
                          have c13b1 : (a0 != 11) = false := bne_eq_false_iff_eq.mpr c13
                          clear c13
                          obtain rfl := Option.some.inj H
                          go_wp2
                          go_ret
                          exact ⟨by first | rfl | (simp; done) | (simp [*]; done) | (simp [show Go.RowKit.wrap64 0 = 0 by unfold Go.RowKit.wrap64; decide]; done), by repeat (first | exact Drawn0.refl _ | apply Drawn0.step)⟩
                        · rw [if_neg c13] at H
                          have c13b0 : (a0 == 11) = false := beq_eq_false_iff_ne.mpr c13
                          have c13b1 : (a0 != 11) = true := bne_iff_ne.mpr c13
                          by_cases c14 : a0 = 12
                          · rw [if_pos c14] at H
                            have c14b0 : (a0 == 12) = true := beq_iff_eq.mpr c14
                            have c14b1 : (a0 != 12) = false := bne_eq_false_iff_eq.mpr c14
                            clear c14
                            obtain rfl := Option.some.inj H
                            go_wp2
                            go_ret
                            exact ⟨by first | rfl | (simp; done) | (simp [*]; done) | (simp [show Go.RowKit.wrap64 0 = 0 by unfold Go.RowKit.wrap64; decide]; done), by repeat (first | exact Drawn0.refl _ | apply Drawn0.step)⟩
                          · rw [if_neg c14] at H
                            have c14b0 : (a0 == 12) = false := beq_eq_false_iff_ne.mpr c14
                            have c14b1 : (a0 != 12) = true := bne_iff_ne.mpr c14
                            by_cases c15 : a0 = 13
                            · rw [if_pos c15] at H
                              have c15b0 : (a0 == 13) = true := beq_iff_eq.mpr c15
                              have c15b1 : (a0 != 13) = false := bne_eq_false_iff_eq.mpr c15
                              clear c15
                              obtain rfl := Option.some.inj H
                              go_wp2
                              go_ret
                              exact ⟨by first | rfl | (simp; done) | (simp [*]; done) | (simp [show Go.RowKit.wrap64 0 = 0 by unfold Go.RowKit.wrap64; decide]; done), by repeat (first | exact Drawn0.refl _ | apply Drawn0.step)⟩
                            · rw [if_neg c15] at H
                              have c15b0 : (a0 == 13) = false := beq_eq_false_iff_ne.mpr c15
                              have c15b1 : (a0 != 13) = true := bne_iff_ne.mpr c15
                              obtain rfl := Option.some.inj H
                              go_wp2
                              go_ret
                              exact ⟨by first | rfl | (simp; done) | (simp [*]; done) | (simp [show Go.RowKit.wrap64 0 = 0 by unfold Go.RowKit.wrap64; decide]; done), by repeat (first | exact Drawn0.refl _ | apply Drawn0.step)⟩

/-! ### fettleref01_bit: function 21 -/
def fettleref01_bit.f (a0 : Int) (a1 : Int) : Option (Int) := if 0 ≤ a1 then (some (Go.bits .and .u64 (shr .u64 a0 a1) 1)) else (none)
set_option maxHeartbeats 8000000 in
set_option maxRecDepth 100000 in
theorem fettleref01_bit.calls (a0 : Int) (a1 : Int) (r : Int) (w : World) (h : fettleref01_bit.f a0 a1 = some r) :
    Calls Try.prog 21 #[.int .u64 a0, .int .i64 a1] w fun e w' => e = .returned (.int .u64 r) ∧ Drawn0 w w' := by
  have H : (if 0 ≤ a1 then (some (Go.bits .and .u64 (shr .u64 a0 a1) 1)) else (none)) = some r := h
  clear h
  by_cases c3 : 0 ≤ a1
  · rw [if_pos c3] at H
    have c3b0 := eq_true c3
    have c3b1 : decide (0 ≤ a1) = true := decide_eq_true c3
    clear c3
    obtain ⟨ji4, hji4⟩ : ∃ j_ : Int, (shr .u64 a0 a1) = j_ := ⟨_, rfl⟩
    replace H : (some (Go.bits .and .u64 (ji4) 1)) = some r := by first | (rw [hji4] at H; exact H) | (simp only [hji4] at H ⊢; exact H)
    have hji4_ : (a0 / 2 ^ min a1.toNat 64) = ji4 := hji4
    have hji4z : a1 ≤ 64 → (a0 / 2 ^ a1.toNat) = ji4 := shr_small hji4
    obtain rfl := Option.some.inj H
    go_enter Try.func21, Try.ntmps21
    go_wp2
    go_ret
    exact ⟨by first | rfl | (simp; done) | (simp only [← hji4] <;> (first | rfl | simp)) | (simp [*]; done), by repeat (first | exact Drawn0.refl _ | apply Drawn0.step)⟩
  · rw [if_neg c3] at H
    exact absurd H (by simp)

/-! ### fettleref01_add: function 19 -/
def fettleref01_add.l0 : Nat → Int → Int → Int → Int → Int → Option (Int)
  | 0, _, _, _, _, _ => none
  | k + 1, x0, x1, x2, x7, x8 => if x8 < 64 then ((fettleref01_bit.f x0 x8).bind fun t119 => ((fettleref01_bit.f x1 x8).bind fun t120 => (if 0 ≤ x8 then (fettleref01_add.l0 k x0 x1 (IntKind.u64.wrap (Int.tdiv (IntKind.u64.wrap ((IntKind.u64.wrap (t119 + t120)) + x2)) 2)) (Go.bits .or .u64 x7 (shl .u64 (Int.tmod (IntKind.u64.wrap ((IntKind.u64.wrap (t119 + t120)) + x2)) 2) x8)) (wrap64 (x8 + 1))) else (none)))) else (some x7)
def fettleref01_add.f (k : Nat) (a0 : Int) (a1 : Int) (a2 : Int) : Option (Int) := fettleref01_add.l0 k a0 a1 a2 0 0
theorem fettleref01_add.mono_l : ∀ k, (∀ y0 y1 y2 y3 y4, LeO (fettleref01_add.l0 k y0 y1 y2 y3 y4) (fettleref01_add.l0 (k + 1) y0 y1 y2 y3 y4))
  | 0 => fun _ _ _ _ _ r h => by simp [fettleref01_add.l0] at h
  | k + 1 => by
    have ih0 := fettleref01_add.mono_l k
    · intro y0 y1 y2 y3 y4
      unfold fettleref01_add.l0
      repeat' first
      | (with_reducible exact ih0 _ _ _ _ _)
      | (with_reducible exact LeO.refl _)
      | (with_reducible exact LeO.none _)
      | (with_reducible refine LeO.ite ?_ ?_)
      | (with_reducible refine LeO.bind ?_ (fun _ => ?_))
      | exact ih0 _ _ _ _ _
      | exact LeO.none _
      | refine LeO.ite ?_ ?_
      | refine LeO.bind ?_ (fun _ => ?_)
theorem fettleref01_add.mono : ∀ a0 a1 a2 k, LeO (fettleref01_add.f k a0 a1 a2) (fettleref01_add.f (k + 1) a0 a1 a2) := by
  intro a0 a1 a2 k
  have ih0 := fettleref01_add.mono_l k
  unfold fettleref01_add.f
  repeat' first
      | (with_reducible exact ih0 _ _ _ _ _)
      | (with_reducible exact LeO.refl _)
      | (with_reducible exact LeO.none _)
      | (with_reducible refine LeO.ite ?_ ?_)
      | (with_reducible refine LeO.bind ?_ (fun _ => ?_))
      | exact ih0 _ _ _ _ _
      | exact LeO.none _
      | refine LeO.ite ?_ ?_
      | refine LeO.bind ?_ (fun _ => ?_)
set_option maxHeartbeats 8000000 in
set_option maxRecDepth 100000 in
theorem fettleref01_add.calls (k : Nat) (a0 : Int) (a1 : Int) (a2 : Int) (r : Int) (w : World) (h : fettleref01_add.f k a0 a1 a2 = some r) :
    Calls Try.prog 19 #[.int .u64 a0, .int .u64 a1, .int .u64 a2] w fun e w' => e = .returned (.int .u64 r) ∧ Drawn0 w w' := by
  have H : (fettleref01_add.l0 k a0 a1 a2 0 0) = some r := h
  clear h
  have H' := Aside0.mk H
  clear H
  go_enter Try.func19, Try.ntmps19
  go_wp2
  go_loopg [2, 7, 8] k (fun kq v2 v7 v8 w' => ∃ (x2_1 : Int) (x7_1 : Int) (x8_1 : Int), v2 = .int .u64 x2_1 ∧ v7 = .int .u64 x7_1 ∧ v8 = .int .i64 x8_1 ∧ Aside0 (fettleref01_add.l0 kq a0 a1 x2_1 x7_1 x8_1 = some r) ∧ Aside0 (kq ≤ k) ∧ Drawn0 w w')
  case atStart => exact ⟨(a2), (0), (0), (by first | rfl | (simp; done) | (simp [*]; done)), (by first | rfl | (simp; done) | (simp [*]; done)), (by first | rfl | (simp; done) | (simp [*]; done)), H', ⟨Nat.le_refl _⟩, by repeat (first | exact Drawn0.refl _ | apply Drawn0.step)⟩
  case round =>
    clear H'
    try clear c1
    try clear p2
    obtain ⟨x2_1, x7_1, x8_1, rfl, rfl, rfl, HA, HK1, ⟨m1, rfl⟩⟩ := hrel
    cases gk with
    | zero => exact absurd HA.out (by simp [fettleref01_add.l0])
    | succ k1 =>
      have H := HA.out
      clear HA
      simp only [fettleref01_add.l0] at H
      by_cases c4 : x8_1 < 64
      · rw [if_pos c4] at H
        have c4b0 : decide (x8_1 < 64) = true := decide_eq_true c4
        clear c4
        replace H := Option.bind_eq_some_iff.mp H
        obtain ⟨t119, A50, H⟩ := H
        replace H : ((fettleref01_bit.f a1 x8_1).bind fun t120 => (if 0 ≤ x8_1 then (fettleref01_add.l0 k1 a0 a1 (IntKind.u64.wrap (Int.tdiv (IntKind.u64.wrap ((IntKind.u64.wrap (t119 + t120)) + x2_1)) 2)) (Go.bits .or .u64 x7_1 (shl .u64 (Int.tmod (IntKind.u64.wrap ((IntKind.u64.wrap (t119 + t120)) + x2_1)) 2) x8_1)) (wrap64 (x8_1 + 1))) else (none))) = some r := H
        have A5 := Aside0.mk A50
        clear A50
        replace H := Option.bind_eq_some_iff.mp H
        obtain ⟨t120, A60, H⟩ := H
        replace H : (if 0 ≤ x8_1 then (fettleref01_add.l0 k1 a0 a1 (IntKind.u64.wrap (Int.tdiv (IntKind.u64.wrap ((IntKind.u64.wrap (t119 + t120)) + x2_1)) 2)) (Go.bits .or .u64 x7_1 (shl .u64 (Int.tmod (IntKind.u64.wrap ((IntKind.u64.wrap (t119 + t120)) + x2_1)) 2) x8_1)) (wrap64 (x8_1 + 1))) else (none)) = some r := H
        have A6 := Aside0.mk A60
        clear A60
        by_cases c7 : 0 ≤ x8_1
        · rw [if_pos c7] at H
          have c7b0 := eq_true c7
          have c7b1 : decide (0 ≤ x8_1) = true := decide_eq_true c7
          clear c7
          obtain ⟨ji8, hji8⟩ : ∃ j_ : Int, (shl .u64 (Int.tmod (IntKind.u64.wrap ((IntKind.u64.wrap (t119 + t120)) + x2_1)) 2) x8_1) = j_ := ⟨_, rfl⟩
          replace H : (fettleref01_add.l0 k1 a0 a1 (IntKind.u64.wrap (Int.tdiv (IntKind.u64.wrap ((IntKind.u64.wrap (t119 + t120)) + x2_1)) 2)) (Go.bits .or .u64 x7_1 (ji8)) (wrap64 (x8_1 + 1))) = some r := by first | (rw [hji8] at H; exact H) | (simp only [hji8] at H ⊢; exact H)
          (try rw [hji8] at A5)
          (try rw [hji8] at A6)
          have hji8_ : (IntKind.u64.wrap ((Int.tmod (IntKind.u64.wrap ((IntKind.u64.wrap (t119 + t120)) + x2_1)) 2) * 2 ^ min x8_1.toNat 64)) = ji8 := hji8
          have hji8z : x8_1 ≤ 64 → (IntKind.u64.wrap ((Int.tmod (IntKind.u64.wrap ((IntKind.u64.wrap (t119 + t120)) + x2_1)) 2) * 2 ^ x8_1.toNat)) = ji8 := shl_small hji8
          have H' := Aside0.mk H
          clear H
          go_wp2_with (first | ((with_reducible refine gate_callee (f := 21) rfl ?_); refine goesL_ (some 16) rfl rfl Try.func21 (by kernel_rfl) rfl #[.int .u64 a0, .int .i64 x8_1] rfl (by (try simp only [List.map_toArray, List.map_cons, List.map_nil]); first | done | rfl | (simp only [List.length_drop, List.length_take]; rfl)) ?_; (with_reducible refine (fettleref01_bit.calls a0 x8_1 t119 _ A5.out).mono ?_); rintro e w' ⟨rfl, ⟨nd, rfl⟩⟩; refine ⟨_, rfl, ?_⟩) | ((with_reducible refine gate_callee (f := 21) rfl ?_); refine goesL_ (some 19) rfl rfl Try.func21 (by kernel_rfl) rfl #[.int .u64 a1, .int .i64 x8_1] rfl (by (try simp only [List.map_toArray, List.map_cons, List.map_nil]); first | done | rfl | (simp only [List.length_drop, List.length_take]; rfl)) ?_; (with_reducible refine (fettleref01_bit.calls a1 x8_1 t120 _ A6.out).mono ?_); rintro e w' ⟨rfl, ⟨nd, rfl⟩⟩; refine ⟨_, rfl, ?_⟩))
          go_roundg k1
          case measure => have := HK1.out; omega
          case rel => exact ⟨(IntKind.u64.wrap (Int.tdiv (IntKind.u64.wrap ((IntKind.u64.wrap (t119 + t120)) + x2_1)) 2)), (Go.bits .or .u64 x7_1 (ji8)), (wrap64 (x8_1 + 1)), (by first | rfl | (simp; done) | (simp [*]; done)), (by first | rfl | (simp; done) | (rw [hji8v (by simp only [decide_eq_true_eq] at *; omega)]; done) | (simp only [← hji8] <;> (first | rfl | simp)) | (simp [*]; done)), (by first | rfl | (simp; done) | (simp [*]; done)), H', ⟨by have := HK1.out; omega⟩, by repeat (first | exact Drawn0.refl _ | apply Drawn0.step)⟩
        · rw [if_neg c7] at H
          exact absurd H (by simp)
      · rw [if_neg c4] at H
        have c4b0 : decide (x8_1 < 64) = false := decide_eq_false c4
        clear c4
        obtain rfl := Option.some.inj H
        go_wp2
        go_ret
        exact ⟨by first | rfl | (simp; done) | (simp [*]; done) | (simp [show Go.RowKit.wrap64 0 = 0 by unfold Go.RowKit.wrap64; decide]; done), by repeat (first | exact Drawn0.refl _ | apply Drawn0.step)⟩

/-! ### fettleref01_shift: function 22 -/
def fettleref01_shift.l0 : Nat → Int → Int → Bool → Int → Option (Int)
  | 0, _, _, _, _ => none
  | k + 1, x0, x1, x2, x7 => if x7 < x1 then (if x2 = true then ((fettleref01_bit.f x0 63).bind fun t121 => (fettleref01_shift.l0 k (Go.bits .or .u64 (x0 / 2) (IntKind.u64.wrap (t121 * 9223372036854775808))) x1 x2 (IntKind.u64.wrap (x7 + 1)))) else (fettleref01_shift.l0 k (IntKind.u64.wrap (x0 * 2)) x1 x2 (IntKind.u64.wrap (x7 + 1)))) else (some x0)
def fettleref01_shift.f (k : Nat) (a0 : Int) (a1 : Int) (a2 : Bool) : Option (Int) := fettleref01_shift.l0 k a0 a1 a2 0
theorem fettleref01_shift.mono_l : ∀ k, (∀ y0 y1 y2 y3, LeO (fettleref01_shift.l0 k y0 y1 y2 y3) (fettleref01_shift.l0 (k + 1) y0 y1 y2 y3))
  | 0 => fun _ _ _ _ r h => by simp [fettleref01_shift.l0] at h
  | k + 1 => by
    have ih0 := fettleref01_shift.mono_l k
    · intro y0 y1 y2 y3
      unfold fettleref01_shift.l0
      repeat' first
      | (with_reducible exact ih0 _ _ _ _)
      | (with_reducible exact LeO.refl _)
      | (with_reducible exact LeO.none _)
      | (with_reducible refine LeO.ite ?_ ?_)
      | (with_reducible refine LeO.bind ?_ (fun _ => ?_))
      | exact ih0 _ _ _ _
      | exact LeO.none _
      | refine LeO.ite ?_ ?_
      | refine LeO.bind ?_ (fun _ => ?_)
theorem fettleref01_shift.mono : ∀ a0 a1 a2 k, LeO (fettleref01_shift.f k a0 a1 a2) (fettleref01_shift.f (k + 1) a0 a1 a2) := by
  intro a0 a1 a2 k
  have ih0 := fettleref01_shift.mono_l k
  unfold fettleref01_shift.f
  repeat' first
      | (with_reducible exact ih0 _ _ _ _)
      | (with_reducible exact LeO.refl _)
      | (with_reducible exact LeO.none _)
      | (with_reducible refine LeO.ite ?_ ?_)
      | (with_reducible refine LeO.bind ?_ (fun _ => ?_))
      | exact ih0 _ _ _ _
      | exact LeO.none _
      | refine LeO.ite ?_ ?_
      | refine LeO.bind ?_ (fun _ => ?_)
set_option maxHeartbeats 8000000 in
set_option maxRecDepth 100000 in
theorem fettleref01_shift.calls (k : Nat) (a0 : Int) (a1 : Int) (a2 : Bool) (r : Int) (w : World) (h : fettleref01_shift.f k a0 a1 a2 = some r) :
    Calls Try.prog 22 #[.int .u64 a0, .int .u64 a1, .bool a2] w fun e w' => e = .returned (.int .u64 r) ∧ Drawn0 w w' := by
  have H : (fettleref01_shift.l0 k a0 a1 a2 0) = some r := h
  clear h
  have H' := Aside0.mk H
  clear H
  go_enter Try.func22, Try.ntmps22
  go_wp2
  go_loopg [0, 7] k (fun kq v0 v7 w' => ∃ (x0_1 : Int) (x7_1 : Int), v0 = .int .u64 x0_1 ∧ v7 = .int .u64 x7_1 ∧ Aside0 (fettleref01_shift.l0 kq x0_1 a1 a2 x7_1 = some r) ∧ Aside0 (kq ≤ k) ∧ Drawn0 w w')
  case atStart => exact ⟨(a0), (0), (by first | rfl | (simp; done) | (simp [*]; done)), (by first | rfl | (simp; done) | (simp [*]; done)), H', ⟨Nat.le_refl _⟩, by repeat (first | exact Drawn0.refl _ | apply Drawn0.step)⟩
  case round =>
    clear H'
    try clear c2
    try clear p2
    obtain ⟨x0_1, x7_1, rfl, rfl, HA, HK1, ⟨m1, rfl⟩⟩ := hrel
    cases gk with
    | zero => exact absurd HA.out (by simp [fettleref01_shift.l0])
    | succ k1 =>
      have H := HA.out
      clear HA
      simp only [fettleref01_shift.l0] at H
      by_cases c4 : x7_1 < a1
      · rw [if_pos c4] at H
        have c4b0 : decide (x7_1 < a1) = true := decide_eq_true c4
        clear c4
        by_cases c5 : a2 = true
        · subst c5
          have H1 : ((fettleref01_bit.f x0_1 63).bind fun t121 => (fettleref01_shift.l0 k1 (Go.bits .or .u64 (x0_1 / 2) (IntKind.u64.wrap (t121 * 9223372036854775808))) a1 true (IntKind.u64.wrap (x7_1 + 1)))) = some r := by rw [if_pos rfl] at H; exact H
          clear H
          have H := H1
          clear H1
          replace H := Option.bind_eq_some_iff.mp H
          obtain ⟨t121, A60, H⟩ := H
          replace H : (fettleref01_shift.l0 k1 (Go.bits .or .u64 (x0_1 / 2) (IntKind.u64.wrap (t121 * 9223372036854775808))) a1 true (IntKind.u64.wrap (x7_1 + 1))) = some r := H
          have A6 := Aside0.mk A60
          clear A60
          have H' := Aside0.mk H
          clear H
          go_wp2_with (first | ((with_reducible refine gate_callee (f := 21) rfl ?_); refine goesL_ (some 17) rfl rfl Try.func21 (by kernel_rfl) rfl #[.int .u64 x0_1, .int .i64 63] rfl (by (try simp only [List.map_toArray, List.map_cons, List.map_nil]); first | done | rfl | (simp only [List.length_drop, List.length_take]; rfl)) ?_; (with_reducible refine (fettleref01_bit.calls x0_1 63 t121 _ A6.out).mono ?_); rintro e w' ⟨rfl, ⟨nd, rfl⟩⟩; refine ⟨_, rfl, ?_⟩))
          go_roundg k1
          case measure => have := HK1.out; omega
          case rel => exact ⟨(Go.bits .or .u64 (x0_1 / 2) (IntKind.u64.wrap (t121 * 9223372036854775808))), (IntKind.u64.wrap (x7_1 + 1)), (by first | rfl | (simp; done) | (simp [*]; done)), (by first | rfl | (simp; done) | (simp [*]; done)), H', ⟨by have := HK1.out; omega⟩, by repeat (first | exact Drawn0.refl _ | apply Drawn0.step)⟩
        · replace c5 := Bool.eq_false_iff.mpr c5
          subst c5
          have H1 : (fettleref01_shift.l0 k1 (IntKind.u64.wrap (x0_1 * 2)) a1 false (IntKind.u64.wrap (x7_1 + 1))) = some r := by rw [if_neg (show ¬ (false = true) by decide)] at H; exact H
          clear H
          have H := H1
          clear H1
          have H' := Aside0.mk H
          clear H
          go_wp2
          go_roundg k1
          case measure => have := HK1.out; omega
          case rel => exact ⟨(IntKind.u64.wrap (x0_1 * 2)), (IntKind.u64.wrap (x7_1 + 1)), (by first | rfl | (simp; done) | (simp [*]; done)), (by first | rfl | (simp; done) | (simp [*]; done)), H', ⟨by have := HK1.out; omega⟩, by repeat (first | exact Drawn0.refl _ | apply Drawn0.step)⟩
      · rw [if_neg c4] at H
        have c4b0 : decide (x7_1 < a1) = false := decide_eq_false c4
        clear c4
        obtain rfl := Option.some.inj H
        go_wp2
        go_ret
        exact ⟨by first | rfl | (simp; done) | (simp [*]; done) | (simp [show Go.RowKit.wrap64 0 = 0 by unfold Go.RowKit.wrap64; decide]; done), by repeat (first | exact Drawn0.refl _ | apply Drawn0.step)⟩

/-! ### fettleref01_less: function 23 -/
def fettleref01_less.l0 : Nat → Int → Int → Int → Option (Bool)
  | 0, _, _, _ => none
  | k + 1, x0, x1, x7 => if x7 ≥ 0 then ((fettleref01_bit.f (IntKind.u64.wrap (x0)) x7).bind fun t124 => ((fettleref01_bit.f (IntKind.u64.wrap (x1)) x7).bind fun t125 => (if t124 = t125 then (fettleref01_less.l0 k x0 x1 (wrap64 (x7 - 1))) else (some (t125 == 1))))) else (some false)
def fettleref01_less.f (k : Nat) (a0 : Int) (a1 : Int) : Option (Bool) := (fettleref01_bit.f (IntKind.u64.wrap (a0)) 63).bind fun t122 => ((fettleref01_bit.f (IntKind.u64.wrap (a1)) 63).bind fun t123 => (if t122 = t123 then (fettleref01_less.l0 k a0 a1 62) else (some (t122 == 1))))
theorem fettleref01_less.mono_l : ∀ k, (∀ y0 y1 y2, LeO (fettleref01_less.l0 k y0 y1 y2) (fettleref01_less.l0 (k + 1) y0 y1 y2))
  | 0 => fun _ _ _ r h => by simp [fettleref01_less.l0] at h
  | k + 1 => by
    have ih0 := fettleref01_less.mono_l k
    · intro y0 y1 y2
      unfold fettleref01_less.l0
      repeat' first
      | (with_reducible exact ih0 _ _ _)
      | (with_reducible exact LeO.refl _)
      | (with_reducible exact LeO.none _)
      | (with_reducible refine LeO.ite ?_ ?_)
      | (with_reducible refine LeO.bind ?_ (fun _ => ?_))
      | exact ih0 _ _ _
      | exact LeO.none _
      | refine LeO.ite ?_ ?_
      | refine LeO.bind ?_ (fun _ => ?_)
theorem fettleref01_less.mono : ∀ a0 a1 k, LeO (fettleref01_less.f k a0 a1) (fettleref01_less.f (k + 1) a0 a1) := by
  intro a0 a1 k
  have ih0 := fettleref01_less.mono_l k
  unfold fettleref01_less.f
  repeat' first
      | (with_reducible exact ih0 _ _ _)
      | (with_reducible exact LeO.refl _)
      | (with_reducible exact LeO.none _)
      | (with_reducible refine LeO.ite ?_ ?_)
      | (with_reducible refine LeO.bind ?_ (fun _ => ?_))
      | exact ih0 _ _ _
      | exact LeO.none _
      | refine LeO.ite ?_ ?_
      | refine LeO.bind ?_ (fun _ => ?_)
set_option maxHeartbeats 8000000 in
set_option maxRecDepth 100000 in
theorem fettleref01_less.calls (k : Nat) (a0 : Int) (a1 : Int) (r : Bool) (w : World) (h : fettleref01_less.f k a0 a1 = some r) :
    Calls Try.prog 23 #[.int .i64 a0, .int .i64 a1] w fun e w' => e = .returned (.bool r) ∧ Drawn0 w w' := by
  have H : ((fettleref01_bit.f (IntKind.u64.wrap (a0)) 63).bind fun t122 => ((fettleref01_bit.f (IntKind.u64.wrap (a1)) 63).bind fun t123 => (if t122 = t123 then (fettleref01_less.l0 k a0 a1 62) else (some (t122 == 1))))) = some r := h
  clear h
  replace H := Option.bind_eq_some_iff.mp H
  obtain ⟨t122, A30, H⟩ := H
  replace H : ((fettleref01_bit.f (IntKind.u64.wrap (a1)) 63).bind fun t123 => (if t122 = t123 then (fettleref01_less.l0 k a0 a1 62) else (some (t122 == 1)))) = some r := H
  have A3 := Aside0.mk A30
  clear A30
  replace H := Option.bind_eq_some_iff.mp H
  obtain ⟨t123, A40, H⟩ := H
  replace H : (if t122 = t123 then (fettleref01_less.l0 k a0 a1 62) else (some (t122 == 1))) = some r := H
  have A4 := Aside0.mk A40
  clear A40
  by_cases c5 : t122 = t123
  · rw [if_pos c5] at H
    have c5b0 : (t122 == t123) = true := beq_iff_eq.mpr c5
    have c5b1 : (t122 != t123) = false := bne_eq_false_iff_eq.mpr c5
    clear c5
    have H' := Aside0.mk H
    clear H
    go_enter Try.func23, Try.ntmps23
    go_wp2_with (first | ((with_reducible refine gate_callee (f := 21) rfl ?_); refine goesL_ (some 12) rfl rfl Try.func21 (by kernel_rfl) rfl #[.int .u64 (IntKind.u64.wrap (a0)), .int .i64 63] rfl (by (try simp only [List.map_toArray, List.map_cons, List.map_nil]); first | done | rfl | (simp only [List.length_drop, List.length_take]; rfl)) ?_; (with_reducible refine (fettleref01_bit.calls (IntKind.u64.wrap (a0)) 63 t122 _ A3.out).mono ?_); rintro e w' ⟨rfl, ⟨nd, rfl⟩⟩; refine ⟨_, rfl, ?_⟩) | ((with_reducible refine gate_callee (f := 21) rfl ?_); refine goesL_ (some 15) rfl rfl Try.func21 (by kernel_rfl) rfl #[.int .u64 (IntKind.u64.wrap (a1)), .int .i64 63] rfl (by (try simp only [List.map_toArray, List.map_cons, List.map_nil]); first | done | rfl | (simp only [List.length_drop, List.length_take]; rfl)) ?_; (with_reducible refine (fettleref01_bit.calls (IntKind.u64.wrap (a1)) 63 t123 _ A4.out).mono ?_); rintro e w' ⟨rfl, ⟨nd, rfl⟩⟩; refine ⟨_, rfl, ?_⟩))
    go_loopg [7] k (fun kq v7 w' => ∃ (x7_1 : Int), v7 = .int .i64 x7_1 ∧ Aside0 (fettleref01_less.l0 kq a0 a1 x7_1 = some r) ∧ Aside0 (kq ≤ k) ∧ Drawn0 w w')
    case atStart => exact ⟨(62), (by first | rfl | (simp; done) | (simp [*]; done)), H', ⟨Nat.le_refl _⟩, by repeat (first | exact Drawn0.refl _ | apply Drawn0.step)⟩
    case round =>
      clear H'
      try clear c2
      try clear p2
      try clear c5
      try clear c5b0
      try clear c5b1
      obtain ⟨x7_1, rfl, HA, HK1, ⟨m1, rfl⟩⟩ := hrel
      cases gk with
      | zero => exact absurd HA.out (by simp [fettleref01_less.l0])
      | succ k1 =>
        have H := HA.out
        clear HA
        simp only [fettleref01_less.l0] at H
        by_cases c6 : x7_1 ≥ 0
        · rw [if_pos c6] at H
          have c6b0 : decide (0 ≤ x7_1) = true := decide_eq_true c6
          clear c6
          replace H := Option.bind_eq_some_iff.mp H
          obtain ⟨t124, A70, H⟩ := H
          replace H : ((fettleref01_bit.f (IntKind.u64.wrap (a1)) x7_1).bind fun t125 => (if t124 = t125 then (fettleref01_less.l0 k1 a0 a1 (wrap64 (x7_1 - 1))) else (some (t125 == 1)))) = some r := H
          have A7 := Aside0.mk A70
          clear A70
          replace H := Option.bind_eq_some_iff.mp H
          obtain ⟨t125, A80, H⟩ := H
          replace H : (if t124 = t125 then (fettleref01_less.l0 k1 a0 a1 (wrap64 (x7_1 - 1))) else (some (t125 == 1))) = some r := H
          have A8 := Aside0.mk A80
          clear A80
          by_cases c9 : t124 = t125
          · rw [if_pos c9] at H
            have c9b0 : (t124 == t125) = true := beq_iff_eq.mpr c9
            have c9b1 : (t124 != t125) = false := bne_eq_false_iff_eq.mpr c9
            clear c9
            have H' := Aside0.mk H
            clear H
            go_wp2_with (first | ((with_reducible refine gate_callee (f := 21) rfl ?_); refine goesL_ (some 28) rfl rfl Try.func21 (by kernel_rfl) rfl #[.int .u64 (IntKind.u64.wrap (a0)), .int .i64 x7_1] rfl (by (try simp only [List.map_toArray, List.map_cons, List.map_nil]); first | done | rfl | (simp only [List.length_drop, List.length_take]; rfl)) ?_; (with_reducible refine (fettleref01_bit.calls (IntKind.u64.wrap (a0)) x7_1 t124 _ A7.out).mono ?_); rintro e w' ⟨rfl, ⟨nd, rfl⟩⟩; refine ⟨_, rfl, ?_⟩) | ((with_reducible refine gate_callee (f := 21) rfl ?_); refine goesL_ (some 32) rfl rfl Try.func21 (by kernel_rfl) rfl #[.int .u64 (IntKind.u64.wrap (a1)), .int .i64 x7_1] rfl (by (try simp only [List.map_toArray, List.map_cons, List.map_nil]); first | done | rfl | (simp only [List.length_drop, List.length_take]; rfl)) ?_; (with_reducible refine (fettleref01_bit.calls (IntKind.u64.wrap (a1)) x7_1 t125 _ A8.out).mono ?_); rintro e w' ⟨rfl, ⟨nd, rfl⟩⟩; refine ⟨_, rfl, ?_⟩))
            go_roundg k1
            case measure => have := HK1.out; omega
            case rel => exact ⟨(wrap64 (x7_1 - 1)), (by first | rfl | (simp; done) | (simp [*]; done)), H', ⟨by have := HK1.out; omega⟩, by repeat (first | exact Drawn0.refl _ | apply Drawn0.step)⟩
          · rw [if_neg c9] at H
            have c9b0 : (t124 == t125) = false := beq_eq_false_iff_ne.mpr c9
            have c9b1 : (t124 != t125) = true := bne_iff_ne.mpr c9
            obtain rfl := Option.some.inj H
            go_wp2_with (first | ((with_reducible refine gate_callee (f := 21) rfl ?_); refine goesL_ (some 28) rfl rfl Try.func21 (by kernel_rfl) rfl #[.int .u64 (IntKind.u64.wrap (a0)), .int .i64 x7_1] rfl (by (try simp only [List.map_toArray, List.map_cons, List.map_nil]); first | done | rfl | (simp only [List.length_drop, List.length_take]; rfl)) ?_; (with_reducible refine (fettleref01_bit.calls (IntKind.u64.wrap (a0)) x7_1 t124 _ A7.out).mono ?_); rintro e w' ⟨rfl, ⟨nd, rfl⟩⟩; refine ⟨_, rfl, ?_⟩) | ((with_reducible refine gate_callee (f := 21) rfl ?_); refine goesL_ (some 32) rfl rfl Try.func21 (by kernel_rfl) rfl #[.int .u64 (IntKind.u64.wrap (a1)), .int .i64 x7_1] rfl (by (try simp only [List.map_toArray, List.map_cons, List.map_nil]); first | done | rfl | (simp only [List.length_drop, List.length_take]; rfl)) ?_; (with_reducible refine (fettleref01_bit.calls (IntKind.u64.wrap (a1)) x7_1 t125 _ A8.out).mono ?_); rintro e w' ⟨rfl, ⟨nd, rfl⟩⟩; refine ⟨_, rfl, ?_⟩))
            go_ret
            exact ⟨by first | rfl | (simp; done) | (simp [*]; done) | (simp [show Go.RowKit.wrap64 0 = 0 by unfold Go.RowKit.wrap64; decide]; done), by repeat (first | exact Drawn0.refl _ | apply Drawn0.step)⟩
        · rw [if_neg c6] at H
          have c6b0 : decide (0 ≤ x7_1) = false := decide_eq_false c6
          clear c6
          obtain rfl := Option.some.inj H
          go_wp2
          go_ret
          exact ⟨by first | rfl | (simp; done) | (simp [*]; done) | (simp [show Go.RowKit.wrap64 0 = 0 by unfold Go.RowKit.wrap64; decide]; done), by repeat (first | exact Drawn0.refl _ | apply Drawn0.step)⟩
  · rw [if_neg c5] at H
    have c5b0 : (t122 == t123) = false := beq_eq_false_iff_ne.mpr c5
    have c5b1 : (t122 != t123) = true := bne_iff_ne.mpr c5
    obtain rfl := Option.some.inj H
    go_enter Try.func23, Try.ntmps23
    go_wp2_with (first | ((with_reducible refine gate_callee (f := 21) rfl ?_); refine goesL_ (some 12) rfl rfl Try.func21 (by kernel_rfl) rfl #[.int .u64 (IntKind.u64.wrap (a0)), .int .i64 63] rfl (by (try simp only [List.map_toArray, List.map_cons, List.map_nil]); first | done | rfl | (simp only [List.length_drop, List.length_take]; rfl)) ?_; (with_reducible refine (fettleref01_bit.calls (IntKind.u64.wrap (a0)) 63 t122 _ A3.out).mono ?_); rintro e w' ⟨rfl, ⟨nd, rfl⟩⟩; refine ⟨_, rfl, ?_⟩) | ((with_reducible refine gate_callee (f := 21) rfl ?_); refine goesL_ (some 15) rfl rfl Try.func21 (by kernel_rfl) rfl #[.int .u64 (IntKind.u64.wrap (a1)), .int .i64 63] rfl (by (try simp only [List.map_toArray, List.map_cons, List.map_nil]); first | done | rfl | (simp only [List.length_drop, List.length_take]; rfl)) ?_; (with_reducible refine (fettleref01_bit.calls (IntKind.u64.wrap (a1)) 63 t123 _ A4.out).mono ?_); rintro e w' ⟨rfl, ⟨nd, rfl⟩⟩; refine ⟨_, rfl, ?_⟩))
    go_ret
    exact ⟨by first | rfl | (simp; done) | (simp [*]; done) | (simp [show Go.RowKit.wrap64 0 = 0 by unfold Go.RowKit.wrap64; decide]; done), by repeat (first | exact Drawn0.refl _ | apply Drawn0.step)⟩

/-! ### fettleref01_negative: function 24 -/
def fettleref01_negative.f (k : Nat) (a0 : Int) : Option (Int) := (fettleref01_add.f k (Go.bits .xor .u64 18446744073709551615 a0) 0 1).bind fun t126 => (some t126)
theorem fettleref01_negative.mono : ∀ a0 k, LeO (fettleref01_negative.f k a0) (fettleref01_negative.f (k + 1) a0) := by
  intro a0 k
  unfold fettleref01_negative.f
  repeat' first
      | (with_reducible exact fettleref01_add.mono _ _ _ _)
      | (with_reducible exact LeO.refl _)
      | (with_reducible exact LeO.none _)
      | (with_reducible refine LeO.ite ?_ ?_)
      | (with_reducible refine LeO.bind ?_ (fun _ => ?_))
      | exact fettleref01_add.mono _ _ _ _
      | exact LeO.none _
      | refine LeO.ite ?_ ?_
      | refine LeO.bind ?_ (fun _ => ?_)
set_option maxHeartbeats 8000000 in
set_option maxRecDepth 100000 in
theorem fettleref01_negative.calls (k : Nat) (a0 : Int) (r : Int) (w : World) (h : fettleref01_negative.f k a0 = some r) :
    Calls Try.prog 24 #[.int .u64 a0] w fun e w' => e = .returned (.int .u64 r) ∧ Drawn0 w w' := by
  have H : ((fettleref01_add.f k (Go.bits .xor .u64 18446744073709551615 a0) 0 1).bind fun t126 => (some t126)) = some r := h
  clear h
  replace H := Option.bind_eq_some_iff.mp H
  obtain ⟨t126, A20, H⟩ := H
  replace H : (some t126) = some r := H
  have A2 := Aside0.mk A20
  clear A20
  obtain rfl := Option.some.inj H
  go_enter Try.func24, Try.ntmps24
  go_wp2_with (first | ((with_reducible refine gate_callee (f := 19) rfl ?_); refine goesL_ (some 5) rfl rfl Try.func19 (by kernel_rfl) rfl #[.int .u64 (Go.bits .xor .u64 18446744073709551615 a0), .int .u64 0, .int .u64 1] rfl (by (try simp only [List.map_toArray, List.map_cons, List.map_nil]); first | done | rfl | (simp only [List.length_drop, List.length_take]; rfl)) ?_; (with_reducible refine (fettleref01_add.calls k (Go.bits .xor .u64 18446744073709551615 a0) 0 1 t126 _ A2.out).mono ?_); rintro e w' ⟨rfl, ⟨nd, rfl⟩⟩; refine ⟨_, rfl, ?_⟩))
  go_ret
  exact ⟨by first | rfl | (simp; done) | (simp [*]; done) | (simp [show Go.RowKit.wrap64 0 = 0 by unfold Go.RowKit.wrap64; decide]; done), by repeat (first | exact Drawn0.refl _ | apply Drawn0.step)⟩

/-! ### fettleref01_divide: function 25 -/
def fettleref01_divide.l0 : Nat → Int → Int → Int → Int → Int → Option (Int)
  | 0, _, _, _, _, _ => none
  | k + 1, x0, x1, x5, x6, x7 => if x7 ≥ 0 then ((fettleref01_bit.f x6 63).bind fun t127 => ((fettleref01_bit.f x0 x7).bind fun t128 => (if t127 = 1 then (if 0 ≤ x7 then (fettleref01_divide.l0 k x0 x1 (Go.bits .or .u64 x5 (shl .u64 1 x7)) (IntKind.u64.wrap ((Go.bits .or .u64 (IntKind.u64.wrap (x6 * 2)) t128) - x1)) (wrap64 (x7 - 1))) else (none)) else (if (Go.bits .or .u64 (IntKind.u64.wrap (x6 * 2)) t128) ≥ x1 then (if 0 ≤ x7 then (fettleref01_divide.l0 k x0 x1 (Go.bits .or .u64 x5 (shl .u64 1 x7)) (IntKind.u64.wrap ((Go.bits .or .u64 (IntKind.u64.wrap (x6 * 2)) t128) - x1)) (wrap64 (x7 - 1))) else (none)) else (fettleref01_divide.l0 k x0 x1 x5 (Go.bits .or .u64 (IntKind.u64.wrap (x6 * 2)) t128) (wrap64 (x7 - 1))))))) else (some x5)
def fettleref01_divide.f (k : Nat) (a0 : Int) (a1 : Int) : Option (Int) := fettleref01_divide.l0 k a0 a1 0 0 63
theorem fettleref01_divide.mono_l : ∀ k, (∀ y0 y1 y2 y3 y4, LeO (fettleref01_divide.l0 k y0 y1 y2 y3 y4) (fettleref01_divide.l0 (k + 1) y0 y1 y2 y3 y4))
  | 0 => fun _ _ _ _ _ r h => by simp [fettleref01_divide.l0] at h
  | k + 1 => by
    have ih0 := fettleref01_divide.mono_l k
    · intro y0 y1 y2 y3 y4
      unfold fettleref01_divide.l0
      repeat' first
      | (with_reducible exact ih0 _ _ _ _ _)
      | (with_reducible exact LeO.refl _)
      | (with_reducible exact LeO.none _)
      | (with_reducible refine LeO.ite ?_ ?_)
      | (with_reducible refine LeO.bind ?_ (fun _ => ?_))
      | exact ih0 _ _ _ _ _
      | exact LeO.none _
      | refine LeO.ite ?_ ?_
      | refine LeO.bind ?_ (fun _ => ?_)
theorem fettleref01_divide.mono : ∀ a0 a1 k, LeO (fettleref01_divide.f k a0 a1) (fettleref01_divide.f (k + 1) a0 a1) := by
  intro a0 a1 k
  have ih0 := fettleref01_divide.mono_l k
  unfold fettleref01_divide.f
  repeat' first
      | (with_reducible exact ih0 _ _ _ _ _)
      | (with_reducible exact LeO.refl _)
      | (with_reducible exact LeO.none _)
      | (with_reducible refine LeO.ite ?_ ?_)
      | (with_reducible refine LeO.bind ?_ (fun _ => ?_))
      | exact ih0 _ _ _ _ _
      | exact LeO.none _
      | refine LeO.ite ?_ ?_
      | refine LeO.bind ?_ (fun _ => ?_)
set_option maxHeartbeats 8000000 in
set_option maxRecDepth 100000 in
theorem fettleref01_divide.calls (k : Nat) (a0 : Int) (a1 : Int) (r : Int) (w : World) (h : fettleref01_divide.f k a0 a1 = some r) :
    Calls Try.prog 25 #[.int .u64 a0, .int .u64 a1] w fun e w' => e = .returned (.int .u64 r) ∧ Drawn0 w w' := by
  have H : (fettleref01_divide.l0 k a0 a1 0 0 63) = some r := h
  clear h
  have H' := Aside0.mk H
  clear H
  go_enter Try.func25, Try.ntmps25
  go_wp2
  go_loopg [5, 6, 7] k (fun kq v5 v6 v7 w' => ∃ (x5_1 : Int) (x6_1 : Int) (x7_1 : Int), v5 = .int .u64 x5_1 ∧ v6 = .int .u64 x6_1 ∧ v7 = .int .i64 x7_1 ∧ Aside0 (fettleref01_divide.l0 kq a0 a1 x5_1 x6_1 x7_1 = some r) ∧ Aside0 (kq ≤ k) ∧ Drawn0 w w')
  case atStart => exact ⟨(0), (0), (63), (by first | rfl | (simp; done) | (simp [*]; done)), (by first | rfl | (simp; done) | (simp [*]; done)), (by first | rfl | (simp; done) | (simp [*]; done)), H', ⟨Nat.le_refl _⟩, by repeat (first | exact Drawn0.refl _ | apply Drawn0.step)⟩
  case round =>
    clear H'
    try clear c2
    try clear p2
    obtain ⟨x5_1, x6_1, x7_1, rfl, rfl, rfl, HA, HK1, ⟨m1, rfl⟩⟩ := hrel
    cases gk with
    | zero => exact absurd HA.out (by simp [fettleref01_divide.l0])
    | succ k1 =>
      have H := HA.out
      clear HA
      simp only [fettleref01_divide.l0] at H
      by_cases c3 : x7_1 ≥ 0
      · rw [if_pos c3] at H
        have c3b0 : decide (0 ≤ x7_1) = true := decide_eq_true c3
        clear c3
        replace H := Option.bind_eq_some_iff.mp H
        obtain ⟨t127, A40, H⟩ := H
        replace H : ((fettleref01_bit.f a0 x7_1).bind fun t128 => (if t127 = 1 then (if 0 ≤ x7_1 then (fettleref01_divide.l0 k1 a0 a1 (Go.bits .or .u64 x5_1 (shl .u64 1 x7_1)) (IntKind.u64.wrap ((Go.bits .or .u64 (IntKind.u64.wrap (x6_1 * 2)) t128) - a1)) (wrap64 (x7_1 - 1))) else (none)) else (if (Go.bits .or .u64 (IntKind.u64.wrap (x6_1 * 2)) t128) ≥ a1 then (if 0 ≤ x7_1 then (fettleref01_divide.l0 k1 a0 a1 (Go.bits .or .u64 x5_1 (shl .u64 1 x7_1)) (IntKind.u64.wrap ((Go.bits .or .u64 (IntKind.u64.wrap (x6_1 * 2)) t128) - a1)) (wrap64 (x7_1 - 1))) else (none)) else (fettleref01_divide.l0 k1 a0 a1 x5_1 (Go.bits .or .u64 (IntKind.u64.wrap (x6_1 * 2)) t128) (wrap64 (x7_1 - 1)))))) = some r := H
        have A4 := Aside0.mk A40
        clear A40
        replace H := Option.bind_eq_some_iff.mp H
        obtain ⟨t128, A50, H⟩ := H
        replace H : (if t127 = 1 then (if 0 ≤ x7_1 then (fettleref01_divide.l0 k1 a0 a1 (Go.bits .or .u64 x5_1 (shl .u64 1 x7_1)) (IntKind.u64.wrap ((Go.bits .or .u64 (IntKind.u64.wrap (x6_1 * 2)) t128) - a1)) (wrap64 (x7_1 - 1))) else (none)) else (if (Go.bits .or .u64 (IntKind.u64.wrap (x6_1 * 2)) t128) ≥ a1 then (if 0 ≤ x7_1 then (fettleref01_divide.l0 k1 a0 a1 (Go.bits .or .u64 x5_1 (shl .u64 1 x7_1)) (IntKind.u64.wrap ((Go.bits .or .u64 (IntKind.u64.wrap (x6_1 * 2)) t128) - a1)) (wrap64 (x7_1 - 1))) else (none)) else (fettleref01_divide.l0 k1 a0 a1 x5_1 (Go.bits .or .u64 (IntKind.u64.wrap (x6_1 * 2)) t128) (wrap64 (x7_1 - 1))))) = some r := H
        have A5 := Aside0.mk A50
        clear A50
        by_cases c6 : t127 = 1
        · rw [if_pos c6] at H
          have c6b0 : (t127 == 1) = true := beq_iff_eq.mpr c6
          have c6b1 : (t127 != 1) = false := bne_eq_false_iff_eq.mpr c6
          clear c6
          by_cases c7 : 0 ≤ x7_1
          · rw [if_pos c7] at H
            have c7b0 := eq_true c7
            have c7b1 : decide (0 ≤ x7_1) = true := decide_eq_true c7
            clear c7
            obtain ⟨ji8, hji8⟩ : ∃ j_ : Int, (shl .u64 1 x7_1) = j_ := ⟨_, rfl⟩
            replace H : (fettleref01_divide.l0 k1 a0 a1 (Go.bits .or .u64 x5_1 (ji8)) (IntKind.u64.wrap ((Go.bits .or .u64 (IntKind.u64.wrap (x6_1 * 2)) t128) - a1)) (wrap64 (x7_1 - 1))) = some r := by first | (rw [hji8] at H; exact H) | (simp only [hji8] at H ⊢; exact H)
            (try rw [hji8] at A4)
            (try rw [hji8] at A5)
            have hji8_ : (IntKind.u64.wrap (1 * 2 ^ min x7_1.toNat 64)) = ji8 := hji8
            have hji8z : x7_1 ≤ 64 → (IntKind.u64.wrap (1 * 2 ^ x7_1.toNat)) = ji8 := shl_small hji8
            have hji8u : (IntKind.u64.wrap (2 ^ min x7_1.toNat 64)) = ji8 := by have h_ := hji8_; rw [Int.one_mul] at h_; exact h_
            have hji8v : x7_1 ≤ 64 → (IntKind.u64.wrap (2 ^ x7_1.toNat)) = ji8 := fun hle_ => by have h_ := hji8z hle_; rw [Int.one_mul] at h_; exact h_
            have H' := Aside0.mk H
            clear H
            go_wp2_with (first | ((with_reducible refine gate_callee (f := 21) rfl ?_); refine goesL_ (some 14) rfl rfl Try.func21 (by kernel_rfl) rfl #[.int .u64 x6_1, .int .i64 63] rfl (by (try simp only [List.map_toArray, List.map_cons, List.map_nil]); first | done | rfl | (simp only [List.length_drop, List.length_take]; rfl)) ?_; (with_reducible refine (fettleref01_bit.calls x6_1 63 t127 _ A4.out).mono ?_); rintro e w' ⟨rfl, ⟨nd, rfl⟩⟩; refine ⟨_, rfl, ?_⟩) | ((with_reducible refine gate_callee (f := 21) rfl ?_); refine goesL_ (some 19) rfl rfl Try.func21 (by kernel_rfl) rfl #[.int .u64 a0, .int .i64 x7_1] rfl (by (try simp only [List.map_toArray, List.map_cons, List.map_nil]); first | done | rfl | (simp only [List.length_drop, List.length_take]; rfl)) ?_; (with_reducible refine (fettleref01_bit.calls a0 x7_1 t128 _ A5.out).mono ?_); rintro e w' ⟨rfl, ⟨nd, rfl⟩⟩; refine ⟨_, rfl, ?_⟩))
            go_roundg k1
            case measure => have := HK1.out; omega
            case rel => exact ⟨(Go.bits .or .u64 x5_1 (ji8)), (IntKind.u64.wrap ((Go.bits .or .u64 (IntKind.u64.wrap (x6_1 * 2)) t128) - a1)), (wrap64 (x7_1 - 1)), (by first | rfl | (simp; done) | (rw [hji8v (by simp only [decide_eq_true_eq] at *; omega)]; done) | (simp only [← hji8] <;> (first | rfl | simp)) | (simp [*]; done)), (by first | rfl | (simp; done) | (simp [*]; done)), (by first | rfl | (simp; done) | (simp [*]; done)), H', ⟨by have := HK1.out; omega⟩, by repeat (first | exact Drawn0.refl _ | apply Drawn0.step)⟩
          · rw [if_neg c7] at H
            exact absurd H (by simp)
        · rw [if_neg c6] at H
          have c6b0 : (t127 == 1) = false := beq_eq_false_iff_ne.mpr c6
          have c6b1 : (t127 != 1) = true := bne_iff_ne.mpr c6
          by_cases c9 : (Go.bits .or .u64 (IntKind.u64.wrap (x6_1 * 2)) t128) ≥ a1
          · rw [if_pos c9] at H
            have c9b0 : decide (a1 ≤ (Go.bits .or .u64 (IntKind.u64.wrap (x6_1 * 2)) t128)) = true := decide_eq_true c9
            clear c9
            by_cases c10 : 0 ≤ x7_1
            · rw [if_pos c10] at H
              have c10b0 := eq_true c10
              have c10b1 : decide (0 ≤ x7_1) = true := decide_eq_true c10
              clear c10
              obtain ⟨ji11, hji11⟩ : ∃ j_ : Int, (shl .u64 1 x7_1) = j_ := ⟨_, rfl⟩
              replace H : (fettleref01_divide.l0 k1 a0 a1 (Go.bits .or .u64 x5_1 (ji11)) (IntKind.u64.wrap ((Go.bits .or .u64 (IntKind.u64.wrap (x6_1 * 2)) t128) - a1)) (wrap64 (x7_1 - 1))) = some r := by first | (rw [hji11] at H; exact H) | (simp only [hji11] at H ⊢; exact H)
              (try rw [hji11] at A4)
              (try rw [hji11] at A5)
              have hji11_ : (IntKind.u64.wrap (1 * 2 ^ min x7_1.toNat 64)) = ji11 := hji11
              have hji11z : x7_1 ≤ 64 → (IntKind.u64.wrap (1 * 2 ^ x7_1.toNat)) = ji11 := shl_small hji11
              have hji11u : (IntKind.u64.wrap (2 ^ min x7_1.toNat 64)) = ji11 := by have h_ := hji11_; rw [Int.one_mul] at h_; exact h_
              have hji11v : x7_1 ≤ 64 → (IntKind.u64.wrap (2 ^ x7_1.toNat)) = ji11 := fun hle_ => by have h_ := hji11z hle_; rw [Int.one_mul] at h_; exact h_
              have H' := Aside0.mk H
              clear H
              go_wp2_with (first | ((with_reducible refine gate_callee (f := 21) rfl ?_); refine goesL_ (some 14) rfl rfl Try.func21 (by kernel_rfl) rfl #[.int .u64 x6_1, .int .i64 63] rfl (by (try simp only [List.map_toArray, List.map_cons, List.map_nil]); first | done | rfl | (simp only [List.length_drop, List.length_take]; rfl)) ?_; (with_reducible refine (fettleref01_bit.calls x6_1 63 t127 _ A4.out).mono ?_); rintro e w' ⟨rfl, ⟨nd, rfl⟩⟩; refine ⟨_, rfl, ?_⟩) | ((with_reducible refine gate_callee (f := 21) rfl ?_); refine goesL_ (some 19) rfl rfl Try.func21 (by kernel_rfl) rfl #[.int .u64 a0, .int .i64 x7_1] rfl (by (try simp only [List.map_toArray, List.map_cons, List.map_nil]); first | done | rfl | (simp only [List.length_drop, List.length_take]; rfl)) ?_; (with_reducible refine (fettleref01_bit.calls a0 x7_1 t128 _ A5.out).mono ?_); rintro e w' ⟨rfl, ⟨nd, rfl⟩⟩; refine ⟨_, rfl, ?_⟩))
              go_roundg k1
              case measure => have := HK1.out; omega
              case rel => exact ⟨(Go.bits .or .u64 x5_1 (ji11)), (IntKind.u64.wrap ((Go.bits .or .u64 (IntKind.u64.wrap (x6_1 * 2)) t128) - a1)), (wrap64 (x7_1 - 1)), (by first | rfl | (simp; done) | (rw [hji11v (by simp only [decide_eq_true_eq] at *; omega)]; done) | (simp only [← hji11] <;> (first | rfl | simp)) | (simp [*]; done)), (by first | rfl | (simp; done) | (simp [*]; done)), (by first | rfl | (simp; done) | (simp [*]; done)), H', ⟨by have := HK1.out; omega⟩, by repeat (first | exact Drawn0.refl _ | apply Drawn0.step)⟩
            · rw [if_neg c10] at H
              exact absurd H (by simp)
          · rw [if_neg c9] at H
            have c9b0 : decide (a1 ≤ (Go.bits .or .u64 (IntKind.u64.wrap (x6_1 * 2)) t128)) = false := decide_eq_false c9
            clear c9
            have H' := Aside0.mk H
            clear H
            go_wp2_with (first | ((with_reducible refine gate_callee (f := 21) rfl ?_); refine goesL_ (some 14) rfl rfl Try.func21 (by kernel_rfl) rfl #[.int .u64 x6_1, .int .i64 63] rfl (by (try simp only [List.map_toArray, List.map_cons, List.map_nil]); first | done | rfl | (simp only [List.length_drop, List.length_take]; rfl)) ?_; (with_reducible refine (fettleref01_bit.calls x6_1 63 t127 _ A4.out).mono ?_); rintro e w' ⟨rfl, ⟨nd, rfl⟩⟩; refine ⟨_, rfl, ?_⟩) | ((with_reducible refine gate_callee (f := 21) rfl ?_); refine goesL_ (some 19) rfl rfl Try.func21 (by kernel_rfl) rfl #[.int .u64 a0, .int .i64 x7_1] rfl (by (try simp only [List.map_toArray, List.map_cons, List.map_nil]); first | done | rfl | (simp only [List.length_drop, List.length_take]; rfl)) ?_; (with_reducible refine (fettleref01_bit.calls a0 x7_1 t128 _ A5.out).mono ?_); rintro e w' ⟨rfl, ⟨nd, rfl⟩⟩; refine ⟨_, rfl, ?_⟩))
            go_roundg k1
            case measure => have := HK1.out; omega
            case rel => exact ⟨(x5_1), (Go.bits .or .u64 (IntKind.u64.wrap (x6_1 * 2)) t128), (wrap64 (x7_1 - 1)), (by first | rfl | (simp; done) | (simp [*]; done)), (by first | rfl | (simp; done) | (simp [*]; done)), (by first | rfl | (simp; done) | (simp [*]; done)), H', ⟨by have := HK1.out; omega⟩, by repeat (first | exact Drawn0.refl _ | apply Drawn0.step)⟩
      · rw [if_neg c3] at H
        have c3b0 : decide (0 ≤ x7_1) = false := decide_eq_false c3
        clear c3
        obtain rfl := Option.some.inj H
        go_wp2
        go_ret
        exact ⟨by first | rfl | (simp; done) | (simp [*]; done) | (simp [show Go.RowKit.wrap64 0 = 0 by unfold Go.RowKit.wrap64; decide]; done), by repeat (first | exact Drawn0.refl _ | apply Drawn0.step)⟩

end Go.Proofs.Ytenlbbookiopiaa.PArithEvals
