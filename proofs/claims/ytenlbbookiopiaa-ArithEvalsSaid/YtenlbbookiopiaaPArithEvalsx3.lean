-- Laid by a program of this session (wip/pp/patch.py over the kit's print).
import Derived.Test.YtenlbbookiopiaaPArithEvalsx0
import Derived.Test.YtenlbbookiopiaaPArithEvalsx2
namespace Go.Proofs.Ytenlbbookiopiaa.PArithEvals
open Go.RowKit Go.Proofs.YtenlbbookiopiaaW.PrintWords Go.Proofs.YtenlbbookiopiaaW.PrintLast Go.Proofs.YtenlbbookiopiaaW.PrintMore
attribute [local go_sem] max2_int min2_int max_two min_two max_three min_three max_four min_four   -- for this text's walks alone
attribute [local go_sem] eqErr25 neErr25 nilErr25
set_option linter.unusedVariables false
set_option linter.unusedSimpArgs false

/-! ### fettleref01_two: function 20 -/
mutual
def fettleref01_two.l0 : Nat → Int → Int → Int → Int → Option (Int × Bool)
  | 0, _, _, _, _ => none
  | k + 1, x8, x9, x10, x11 => if x11 < 64 then ((fettleref01_bit.f x9 x11).bind fun t131 => (if t131 = 1 then (if 0 ≤ x11 then ((fettleref01_add.f k x10 (shl .u64 x8 x11) 0).bind fun t132 => (fettleref01_two.l0 k x8 x9 t132 (wrap64 (x11 + 1)))) else (none)) else (fettleref01_two.l0 k x8 x9 x10 (wrap64 (x11 + 1))))) else (some (wrap64 (x10), true))
def fettleref01_two.j1 : Nat → Int → Int → Int → Int → Int → Int → Int → Bool → Option (Int × Bool)
  | 0, _, _, _, _, _, _, _, _ => none
  | k + 1, x0, x1, x2, x8, x9, x10, x22, x49 => if x49 = true then (fettleref01_two.l1 k x0 x8 x9 x10 0) else (if x22 = 9 then ((fettleref01_shift.f k x8 (Int.tmod x9 64) false).bind fun t135 => (some (wrap64 (t135), true))) else (if x22 = 10 then ((fettleref01_shift.f k x8 (Int.tmod x9 64) true).bind fun t136 => (some (wrap64 (t136), true))) else (if x22 = 12 then ((fettleref01_less.f k x1 x2).bind fun t137 => (if t137 = true then (some (1, true)) else (some (wrap64 (x10), true)))) else (if x22 = 13 then ((fettleref01_less.f k x1 x2).bind fun t138 => (if t138 = true then (some (wrap64 (x10), true)) else ((fettleref01_less.f k x2 x1).bind fun t139 => (if t139 = true then (some (wrap64 (x10), true)) else (some (1, true)))))) else (if x22 = 11 then (if x2 = 0 then (some (0, false)) else ((fettleref01_bit.f x8 63).bind fun t140 => (if t140 = 1 then ((fettleref01_negative.f k x8).bind fun t141 => (fettleref01_two.j3 k x8 x9 t141 x9)) else (fettleref01_two.j3 k x8 x9 x8 x9)))) else (some (wrap64 (x10), true)))))))
def fettleref01_two.l1 : Nat → Int → Int → Int → Int → Int → Option (Int × Bool)
  | 0, _, _, _, _, _ => none
  | k + 1, x0, x8, x9, x10, x12 => if x12 < 64 then ((fettleref01_bit.f x8 x12).bind fun t133 => ((fettleref01_bit.f x9 x12).bind fun t134 => (if x0 = 6 then (if (IntKind.u64.wrap (t133 + t134)) = 2 then (if 0 ≤ x12 then (fettleref01_two.l1 k x0 x8 x9 (Go.bits .or .u64 x10 (shl .u64 1 x12)) (wrap64 (x12 + 1))) else (none)) else (if x0 = 7 then (if (IntKind.u64.wrap (t133 + t134)) > 0 then (if 0 ≤ x12 then (fettleref01_two.l1 k x0 x8 x9 (Go.bits .or .u64 x10 (shl .u64 1 x12)) (wrap64 (x12 + 1))) else (none)) else (if x0 = 8 then (if (IntKind.u64.wrap (t133 + t134)) = 1 then (if 0 ≤ x12 then (fettleref01_two.l1 k x0 x8 x9 (Go.bits .or .u64 x10 (shl .u64 1 x12)) (wrap64 (x12 + 1))) else (none)) else (fettleref01_two.l1 k x0 x8 x9 x10 (wrap64 (x12 + 1)))) else (fettleref01_two.l1 k x0 x8 x9 x10 (wrap64 (x12 + 1))))) else (if x0 = 8 then (if (IntKind.u64.wrap (t133 + t134)) = 1 then (if 0 ≤ x12 then (fettleref01_two.l1 k x0 x8 x9 (Go.bits .or .u64 x10 (shl .u64 1 x12)) (wrap64 (x12 + 1))) else (none)) else (fettleref01_two.l1 k x0 x8 x9 x10 (wrap64 (x12 + 1)))) else (fettleref01_two.l1 k x0 x8 x9 x10 (wrap64 (x12 + 1)))))) else (if x0 = 7 then (if (IntKind.u64.wrap (t133 + t134)) > 0 then (if 0 ≤ x12 then (fettleref01_two.l1 k x0 x8 x9 (Go.bits .or .u64 x10 (shl .u64 1 x12)) (wrap64 (x12 + 1))) else (none)) else (if x0 = 8 then (if (IntKind.u64.wrap (t133 + t134)) = 1 then (if 0 ≤ x12 then (fettleref01_two.l1 k x0 x8 x9 (Go.bits .or .u64 x10 (shl .u64 1 x12)) (wrap64 (x12 + 1))) else (none)) else (fettleref01_two.l1 k x0 x8 x9 x10 (wrap64 (x12 + 1)))) else (fettleref01_two.l1 k x0 x8 x9 x10 (wrap64 (x12 + 1))))) else (if x0 = 8 then (if (IntKind.u64.wrap (t133 + t134)) = 1 then (if 0 ≤ x12 then (fettleref01_two.l1 k x0 x8 x9 (Go.bits .or .u64 x10 (shl .u64 1 x12)) (wrap64 (x12 + 1))) else (none)) else (fettleref01_two.l1 k x0 x8 x9 x10 (wrap64 (x12 + 1)))) else (fettleref01_two.l1 k x0 x8 x9 x10 (wrap64 (x12 + 1)))))))) else (some (wrap64 (x10), true))
def fettleref01_two.j3 : Nat → Int → Int → Int → Int → Option (Int × Bool)
  | 0, _, _, _, _ => none
  | k + 1, x8, x9, x16, x17 => (fettleref01_bit.f x9 63).bind fun t142 => (if t142 = 1 then ((fettleref01_negative.f k x9).bind fun t143 => (fettleref01_two.j4 k x8 x9 x16 t143)) else (fettleref01_two.j4 k x8 x9 x16 x17))
def fettleref01_two.j4 : Nat → Int → Int → Int → Int → Option (Int × Bool)
  | 0, _, _, _, _ => none
  | k + 1, x8, x9, x16, x17 => (fettleref01_divide.f k x16 x17).bind fun t144 => ((fettleref01_bit.f x8 63).bind fun t145 => ((fettleref01_bit.f x9 63).bind fun t146 => (if t145 = t146 then (some (wrap64 (t144), true)) else ((fettleref01_negative.f k t144).bind fun t147 => (some (wrap64 (t147), true))))))
end
def fettleref01_two.f (k : Nat) (a0 : Int) (a1 : Int) (a2 : Int) : Option (Int × Bool) := if a0 = 3 then ((fettleref01_add.f k (IntKind.u64.wrap (a1)) (IntKind.u64.wrap (a2)) 0).bind fun t129 => (some (wrap64 (t129), true))) else (if a0 = 4 then ((fettleref01_add.f k (IntKind.u64.wrap (a1)) (Go.bits .xor .u64 18446744073709551615 (IntKind.u64.wrap (a2))) 1).bind fun t130 => (some (wrap64 (t130), true))) else (if a0 = 5 then (fettleref01_two.l0 k (IntKind.u64.wrap (a1)) (IntKind.u64.wrap (a2)) 0 0) else (if a0 = 6 then (fettleref01_two.j1 k a0 a1 a2 (IntKind.u64.wrap (a1)) (IntKind.u64.wrap (a2)) 0 a0 (a0 == 6)) else (if a0 = 7 then (fettleref01_two.j1 k a0 a1 a2 (IntKind.u64.wrap (a1)) (IntKind.u64.wrap (a2)) 0 a0 (a0 == 7)) else (fettleref01_two.j1 k a0 a1 a2 (IntKind.u64.wrap (a1)) (IntKind.u64.wrap (a2)) 0 a0 (a0 == 8))))))
theorem fettleref01_two.mono_l : ∀ k, (∀ y0 y1 y2 y3, LeO (fettleref01_two.l0 k y0 y1 y2 y3) (fettleref01_two.l0 (k + 1) y0 y1 y2 y3)) ∧ (∀ y0 y1 y2 y3 y4 y5 y6 y7, LeO (fettleref01_two.j1 k y0 y1 y2 y3 y4 y5 y6 y7) (fettleref01_two.j1 (k + 1) y0 y1 y2 y3 y4 y5 y6 y7)) ∧ (∀ y0 y1 y2 y3 y4, LeO (fettleref01_two.l1 k y0 y1 y2 y3 y4) (fettleref01_two.l1 (k + 1) y0 y1 y2 y3 y4)) ∧ (∀ y0 y1 y2 y3, LeO (fettleref01_two.j3 k y0 y1 y2 y3) (fettleref01_two.j3 (k + 1) y0 y1 y2 y3)) ∧ (∀ y0 y1 y2 y3, LeO (fettleref01_two.j4 k y0 y1 y2 y3) (fettleref01_two.j4 (k + 1) y0 y1 y2 y3))
  | 0 => ⟨fun _ _ _ _ r h => by simp [fettleref01_two.l0] at h, fun _ _ _ _ _ _ _ _ r h => by simp [fettleref01_two.j1] at h, fun _ _ _ _ _ r h => by simp [fettleref01_two.l1] at h, fun _ _ _ _ r h => by simp [fettleref01_two.j3] at h, fun _ _ _ _ r h => by simp [fettleref01_two.j4] at h⟩
  | k + 1 => by
    obtain ⟨ih0, ih1, ih2, ih3, ih4⟩ := fettleref01_two.mono_l k
    refine ⟨?_, ?_, ?_, ?_, ?_⟩
    · intro y0 y1 y2 y3
      unfold fettleref01_two.l0
      repeat' first
      | (with_reducible exact ih0 _ _ _ _)
      | (with_reducible exact ih1 _ _ _ _ _ _ _ _)
      | (with_reducible exact ih2 _ _ _ _ _)
      | (with_reducible exact ih3 _ _ _ _)
      | (with_reducible exact ih4 _ _ _ _)
      | (with_reducible exact fettleref01_add.mono _ _ _ _)
      | (with_reducible exact fettleref01_divide.mono _ _ _)
      | (with_reducible exact fettleref01_less.mono _ _ _)
      | (with_reducible exact fettleref01_negative.mono _ _)
      | (with_reducible exact fettleref01_shift.mono _ _ _ _)
      | (with_reducible exact LeO.refl _)
      | (with_reducible exact LeO.none _)
      | (with_reducible refine LeO.ite ?_ ?_)
      | (with_reducible refine LeO.bind ?_ (fun _ => ?_))
      | exact ih0 _ _ _ _
      | exact ih1 _ _ _ _ _ _ _ _
      | exact ih2 _ _ _ _ _
      | exact ih3 _ _ _ _
      | exact ih4 _ _ _ _
      | exact fettleref01_add.mono _ _ _ _
      | exact fettleref01_divide.mono _ _ _
      | exact fettleref01_less.mono _ _ _
      | exact fettleref01_negative.mono _ _
      | exact fettleref01_shift.mono _ _ _ _
      | exact LeO.none _
      | refine LeO.ite ?_ ?_
      | refine LeO.bind ?_ (fun _ => ?_)
    · intro y0 y1 y2 y3 y4 y5 y6 y7
      unfold fettleref01_two.j1
      repeat' first
      | (with_reducible exact ih0 _ _ _ _)
      | (with_reducible exact ih1 _ _ _ _ _ _ _ _)
      | (with_reducible exact ih2 _ _ _ _ _)
      | (with_reducible exact ih3 _ _ _ _)
      | (with_reducible exact ih4 _ _ _ _)
      | (with_reducible exact fettleref01_add.mono _ _ _ _)
      | (with_reducible exact fettleref01_divide.mono _ _ _)
      | (with_reducible exact fettleref01_less.mono _ _ _)
      | (with_reducible exact fettleref01_negative.mono _ _)
      | (with_reducible exact fettleref01_shift.mono _ _ _ _)
      | (with_reducible exact LeO.refl _)
      | (with_reducible exact LeO.none _)
      | (with_reducible refine LeO.ite ?_ ?_)
      | (with_reducible refine LeO.bind ?_ (fun _ => ?_))
      | exact ih0 _ _ _ _
      | exact ih1 _ _ _ _ _ _ _ _
      | exact ih2 _ _ _ _ _
      | exact ih3 _ _ _ _
      | exact ih4 _ _ _ _
      | exact fettleref01_add.mono _ _ _ _
      | exact fettleref01_divide.mono _ _ _
      | exact fettleref01_less.mono _ _ _
      | exact fettleref01_negative.mono _ _
      | exact fettleref01_shift.mono _ _ _ _
      | exact LeO.none _
      | refine LeO.ite ?_ ?_
      | refine LeO.bind ?_ (fun _ => ?_)
    · intro y0 y1 y2 y3 y4
      unfold fettleref01_two.l1
      repeat' first
      | (with_reducible exact ih0 _ _ _ _)
      | (with_reducible exact ih1 _ _ _ _ _ _ _ _)
      | (with_reducible exact ih2 _ _ _ _ _)
      | (with_reducible exact ih3 _ _ _ _)
      | (with_reducible exact ih4 _ _ _ _)
      | (with_reducible exact fettleref01_add.mono _ _ _ _)
      | (with_reducible exact fettleref01_divide.mono _ _ _)
      | (with_reducible exact fettleref01_less.mono _ _ _)
      | (with_reducible exact fettleref01_negative.mono _ _)
      | (with_reducible exact fettleref01_shift.mono _ _ _ _)
      | (with_reducible exact LeO.refl _)
      | (with_reducible exact LeO.none _)
      | (with_reducible refine LeO.ite ?_ ?_)
      | (with_reducible refine LeO.bind ?_ (fun _ => ?_))
      | exact ih0 _ _ _ _
      | exact ih1 _ _ _ _ _ _ _ _
      | exact ih2 _ _ _ _ _
      | exact ih3 _ _ _ _
      | exact ih4 _ _ _ _
      | exact fettleref01_add.mono _ _ _ _
      | exact fettleref01_divide.mono _ _ _
      | exact fettleref01_less.mono _ _ _
      | exact fettleref01_negative.mono _ _
      | exact fettleref01_shift.mono _ _ _ _
      | exact LeO.none _
      | refine LeO.ite ?_ ?_
      | refine LeO.bind ?_ (fun _ => ?_)
    · intro y0 y1 y2 y3
      unfold fettleref01_two.j3
      repeat' first
      | (with_reducible exact ih0 _ _ _ _)
      | (with_reducible exact ih1 _ _ _ _ _ _ _ _)
      | (with_reducible exact ih2 _ _ _ _ _)
      | (with_reducible exact ih3 _ _ _ _)
      | (with_reducible exact ih4 _ _ _ _)
      | (with_reducible exact fettleref01_add.mono _ _ _ _)
      | (with_reducible exact fettleref01_divide.mono _ _ _)
      | (with_reducible exact fettleref01_less.mono _ _ _)
      | (with_reducible exact fettleref01_negative.mono _ _)
      | (with_reducible exact fettleref01_shift.mono _ _ _ _)
      | (with_reducible exact LeO.refl _)
      | (with_reducible exact LeO.none _)
      | (with_reducible refine LeO.ite ?_ ?_)
      | (with_reducible refine LeO.bind ?_ (fun _ => ?_))
      | exact ih0 _ _ _ _
      | exact ih1 _ _ _ _ _ _ _ _
      | exact ih2 _ _ _ _ _
      | exact ih3 _ _ _ _
      | exact ih4 _ _ _ _
      | exact fettleref01_add.mono _ _ _ _
      | exact fettleref01_divide.mono _ _ _
      | exact fettleref01_less.mono _ _ _
      | exact fettleref01_negative.mono _ _
      | exact fettleref01_shift.mono _ _ _ _
      | exact LeO.none _
      | refine LeO.ite ?_ ?_
      | refine LeO.bind ?_ (fun _ => ?_)
    · intro y0 y1 y2 y3
      unfold fettleref01_two.j4
      repeat' first
      | (with_reducible exact ih0 _ _ _ _)
      | (with_reducible exact ih1 _ _ _ _ _ _ _ _)
      | (with_reducible exact ih2 _ _ _ _ _)
      | (with_reducible exact ih3 _ _ _ _)
      | (with_reducible exact ih4 _ _ _ _)
      | (with_reducible exact fettleref01_add.mono _ _ _ _)
      | (with_reducible exact fettleref01_divide.mono _ _ _)
      | (with_reducible exact fettleref01_less.mono _ _ _)
      | (with_reducible exact fettleref01_negative.mono _ _)
      | (with_reducible exact fettleref01_shift.mono _ _ _ _)
      | (with_reducible exact LeO.refl _)
      | (with_reducible exact LeO.none _)
      | (with_reducible refine LeO.ite ?_ ?_)
      | (with_reducible refine LeO.bind ?_ (fun _ => ?_))
      | exact ih0 _ _ _ _
      | exact ih1 _ _ _ _ _ _ _ _
      | exact ih2 _ _ _ _ _
      | exact ih3 _ _ _ _
      | exact ih4 _ _ _ _
      | exact fettleref01_add.mono _ _ _ _
      | exact fettleref01_divide.mono _ _ _
      | exact fettleref01_less.mono _ _ _
      | exact fettleref01_negative.mono _ _
      | exact fettleref01_shift.mono _ _ _ _
      | exact LeO.none _
      | refine LeO.ite ?_ ?_
      | refine LeO.bind ?_ (fun _ => ?_)
theorem fettleref01_two.mono : ∀ a0 a1 a2 k, LeO (fettleref01_two.f k a0 a1 a2) (fettleref01_two.f (k + 1) a0 a1 a2) := by
  intro a0 a1 a2 k
  obtain ⟨ih0, ih1, ih2, ih3, ih4⟩ := fettleref01_two.mono_l k
  unfold fettleref01_two.f
  repeat' first
      | (with_reducible exact ih0 _ _ _ _)
      | (with_reducible exact ih1 _ _ _ _ _ _ _ _)
      | (with_reducible exact ih2 _ _ _ _ _)
      | (with_reducible exact ih3 _ _ _ _)
      | (with_reducible exact ih4 _ _ _ _)
      | (with_reducible exact fettleref01_add.mono _ _ _ _)
      | (with_reducible exact fettleref01_divide.mono _ _ _)
      | (with_reducible exact fettleref01_less.mono _ _ _)
      | (with_reducible exact fettleref01_negative.mono _ _)
      | (with_reducible exact fettleref01_shift.mono _ _ _ _)
      | (with_reducible exact LeO.refl _)
      | (with_reducible exact LeO.none _)
      | (with_reducible refine LeO.ite ?_ ?_)
      | (with_reducible refine LeO.bind ?_ (fun _ => ?_))
      | exact ih0 _ _ _ _
      | exact ih1 _ _ _ _ _ _ _ _
      | exact ih2 _ _ _ _ _
      | exact ih3 _ _ _ _
      | exact ih4 _ _ _ _
      | exact fettleref01_add.mono _ _ _ _
      | exact fettleref01_divide.mono _ _ _
      | exact fettleref01_less.mono _ _ _
      | exact fettleref01_negative.mono _ _
      | exact fettleref01_shift.mono _ _ _ _
      | exact LeO.none _
      | refine LeO.ite ?_ ?_
      | refine LeO.bind ?_ (fun _ => ?_)
set_option maxHeartbeats 8000000 in
set_option maxRecDepth 100000 in
theorem fettleref01_two.calls (k : Nat) (a0 : Int) (a1 : Int) (a2 : Int) (r1 : Int) (r2 : Bool) (w : World) (h : fettleref01_two.f k a0 a1 a2 = some (r1, r2)) :
    Calls Try.prog 20 #[.int .i64 a0, .int .i64 a1, .int .i64 a2] w fun e w' => e = .returned (.tuple #[.int .i64 r1, .bool r2]) ∧ Drawn0 w w' := by
  have H : (if a0 = 3 then ((fettleref01_add.f k (IntKind.u64.wrap (a1)) (IntKind.u64.wrap (a2)) 0).bind fun t129 => (some (wrap64 (t129), true))) else (if a0 = 4 then ((fettleref01_add.f k (IntKind.u64.wrap (a1)) (Go.bits .xor .u64 18446744073709551615 (IntKind.u64.wrap (a2))) 1).bind fun t130 => (some (wrap64 (t130), true))) else (if a0 = 5 then (fettleref01_two.l0 k (IntKind.u64.wrap (a1)) (IntKind.u64.wrap (a2)) 0 0) else (if a0 = 6 then (fettleref01_two.j1 k a0 a1 a2 (IntKind.u64.wrap (a1)) (IntKind.u64.wrap (a2)) 0 a0 (a0 == 6)) else (if a0 = 7 then (fettleref01_two.j1 k a0 a1 a2 (IntKind.u64.wrap (a1)) (IntKind.u64.wrap (a2)) 0 a0 (a0 == 7)) else (fettleref01_two.j1 k a0 a1 a2 (IntKind.u64.wrap (a1)) (IntKind.u64.wrap (a2)) 0 a0 (a0 == 8))))))) = some (r1, r2) := h
  clear h
  by_cases c4 : a0 = 3
  · rw [if_pos c4] at H
    have c4b0 : (a0 == 3) = true := beq_iff_eq.mpr c4
    have c4b1 : (a0 != 3) = false := bne_eq_false_iff_eq.mpr c4
    clear c4
    replace H := Option.bind_eq_some_iff.mp H
    obtain ⟨t129, A50, H⟩ := H
    replace H : (some (wrap64 (t129), true)) = some (r1, r2) := H
    have A5 := Aside0.mk A50
    clear A50
    simp only [Option.some.injEq, Prod.mk.injEq] at H
    obtain ⟨rfl, rfl⟩ := H
    go_enter Try.func20, Try.ntmps20
    go_wp2_with (first | ((with_reducible refine gate_callee (f := 19) rfl ?_); refine goesL_ (some 27) rfl rfl Try.func19 (by kernel_rfl) rfl #[.int .u64 (IntKind.u64.wrap (a1)), .int .u64 (IntKind.u64.wrap (a2)), .int .u64 0] rfl (by (try simp only [List.map_toArray, List.map_cons, List.map_nil]); first | done | rfl | (simp only [List.length_drop, List.length_take]; rfl)) ?_; (with_reducible refine (fettleref01_add.calls k (IntKind.u64.wrap (a1)) (IntKind.u64.wrap (a2)) 0 t129 _ A5.out).mono ?_); rintro e w' ⟨rfl, ⟨nd, rfl⟩⟩; refine ⟨_, rfl, ?_⟩))
    go_ret2
    exact ⟨by first | rfl | (simp; done) | (simp [*]; done) | (simp [show Go.RowKit.wrap64 0 = 0 by unfold Go.RowKit.wrap64; decide]; done), by repeat (first | exact Drawn0.refl _ | apply Drawn0.step)⟩
  · rw [if_neg c4] at H
    have c4b0 : (a0 == 3) = false := beq_eq_false_iff_ne.mpr c4
    have c4b1 : (a0 != 3) = true := bne_iff_ne.mpr c4
    by_cases c6 : a0 = 4
    · rw [if_pos c6] at H
      have c6b0 : (a0 == 4) = true := beq_iff_eq.mpr c6
      have c6b1 : (a0 != 4) = false := bne_eq_false_iff_eq.mpr c6
      clear c6
      replace H := Option.bind_eq_some_iff.mp H
      obtain ⟨t130, A70, H⟩ := H
      replace H : (some (wrap64 (t130), true)) = some (r1, r2) := H
      have A7 := Aside0.mk A70
      clear A70
      simp only [Option.some.injEq, Prod.mk.injEq] at H
      obtain ⟨rfl, rfl⟩ := H
      go_enter Try.func20, Try.ntmps20
      go_wp2_with (first | ((with_reducible refine gate_callee (f := 19) rfl ?_); refine goesL_ (some 33) rfl rfl Try.func19 (by kernel_rfl) rfl #[.int .u64 (IntKind.u64.wrap (a1)), .int .u64 (Go.bits .xor .u64 18446744073709551615 (IntKind.u64.wrap (a2))), .int .u64 1] rfl (by (try simp only [List.map_toArray, List.map_cons, List.map_nil]); first | done | rfl | (simp only [List.length_drop, List.length_take]; rfl)) ?_; (with_reducible refine (fettleref01_add.calls k (IntKind.u64.wrap (a1)) (Go.bits .xor .u64 18446744073709551615 (IntKind.u64.wrap (a2))) 1 t130 _ A7.out).mono ?_); rintro e w' ⟨rfl, ⟨nd, rfl⟩⟩; refine ⟨_, rfl, ?_⟩))
      go_ret2
      exact ⟨by first | rfl | (simp; done) | (simp [*]; done) | (simp [show Go.RowKit.wrap64 0 = 0 by unfold Go.RowKit.wrap64; decide]; done), by repeat (first | exact Drawn0.refl _ | apply Drawn0.step)⟩
    · rw [if_neg c6] at H
      have c6b0 : (a0 == 4) = false := beq_eq_false_iff_ne.mpr c6
      have c6b1 : (a0 != 4) = true := bne_iff_ne.mpr c6
      by_cases c8 : a0 = 5
      · rw [if_pos c8] at H
        have c8b0 : (a0 == 5) = true := beq_iff_eq.mpr c8
        have c8b1 : (a0 != 5) = false := bne_eq_false_iff_eq.mpr c8
        clear c8
        have H' := Aside0.mk H
        clear H
        go_enter Try.func20, Try.ntmps20
        go_wp2
        go_loopg [10, 11] k (fun kq v10 v11 w' => ∃ (x10_1 : Int) (x11_1 : Int), v10 = .int .u64 x10_1 ∧ v11 = .int .i64 x11_1 ∧ Aside0 (fettleref01_two.l0 kq (IntKind.u64.wrap (a1)) (IntKind.u64.wrap (a2)) x10_1 x11_1 = some (r1, r2)) ∧ Aside0 (kq ≤ k) ∧ Drawn0 w w')
        case atStart => exact ⟨(0), (0), (by first | rfl | (simp; done) | (simp [*]; done)), (by first | rfl | (simp; done) | (simp [*]; done)), H', ⟨Nat.le_refl _⟩, by repeat (first | exact Drawn0.refl _ | apply Drawn0.step)⟩
        case round =>
          clear H'
          try clear c1
          try clear c2
          try clear p2
          try clear c4
          try clear c4b0
          try clear c4b1
          try clear c6
          try clear c6b0
          try clear c6b1
          try clear p6
          try clear c8
          try clear c8b0
          try clear c8b1
          obtain ⟨x10_1, x11_1, rfl, rfl, HA, HK1, ⟨m1, rfl⟩⟩ := hrel
          cases gk with
          | zero => exact absurd HA.out (by simp [fettleref01_two.l0])
          | succ k1 =>
            have H := HA.out
            clear HA
            simp only [fettleref01_two.l0] at H
            by_cases c9 : x11_1 < 64
            · rw [if_pos c9] at H
              have c9b0 : decide (x11_1 < 64) = true := decide_eq_true c9
              clear c9
              replace H := Option.bind_eq_some_iff.mp H
              obtain ⟨t131, A100, H⟩ := H
              replace H : (if t131 = 1 then (if 0 ≤ x11_1 then ((fettleref01_add.f k1 x10_1 (shl .u64 (IntKind.u64.wrap (a1)) x11_1) 0).bind fun t132 => (fettleref01_two.l0 k1 (IntKind.u64.wrap (a1)) (IntKind.u64.wrap (a2)) t132 (wrap64 (x11_1 + 1)))) else (none)) else (fettleref01_two.l0 k1 (IntKind.u64.wrap (a1)) (IntKind.u64.wrap (a2)) x10_1 (wrap64 (x11_1 + 1)))) = some (r1, r2) := H
              have A10 := Aside0.mk A100
              clear A100
              by_cases c11 : t131 = 1
              · rw [if_pos c11] at H
                have c11b0 : (t131 == 1) = true := beq_iff_eq.mpr c11
                have c11b1 : (t131 != 1) = false := bne_eq_false_iff_eq.mpr c11
                clear c11
                by_cases c12 : 0 ≤ x11_1
                · rw [if_pos c12] at H
                  have c12b0 := eq_true c12
                  have c12b1 : decide (0 ≤ x11_1) = true := decide_eq_true c12
                  clear c12
                  obtain ⟨ji13, hji13⟩ : ∃ j_ : Int, (shl .u64 (IntKind.u64.wrap (a1)) x11_1) = j_ := ⟨_, rfl⟩
                  replace H : ((fettleref01_add.f k1 x10_1 (ji13) 0).bind fun t132 => (fettleref01_two.l0 k1 (IntKind.u64.wrap (a1)) (IntKind.u64.wrap (a2)) t132 (wrap64 (x11_1 + 1)))) = some (r1, r2) := by first | (rw [hji13] at H; exact H) | (simp only [hji13] at H ⊢; exact H)
                  (try rw [hji13] at A10)
                  have hji13_ : (IntKind.u64.wrap ((IntKind.u64.wrap (a1)) * 2 ^ min x11_1.toNat 64)) = ji13 := hji13
                  have hji13z : x11_1 ≤ 64 → (IntKind.u64.wrap ((IntKind.u64.wrap (a1)) * 2 ^ x11_1.toNat)) = ji13 := shl_small hji13
                  replace H := Option.bind_eq_some_iff.mp H
                  obtain ⟨t132, A140, H⟩ := H
                  replace H : (fettleref01_two.l0 k1 (IntKind.u64.wrap (a1)) (IntKind.u64.wrap (a2)) t132 (wrap64 (x11_1 + 1))) = some (r1, r2) := H
                  have A14 := Aside0.mk A140
                  clear A140
                  have H' := Aside0.mk H
                  clear H
                  go_wp2_with (first | ((with_reducible refine gate_callee (f := 21) rfl ?_); refine goesL_ (some 42) rfl rfl Try.func21 (by kernel_rfl) rfl #[.int .u64 (IntKind.u64.wrap (a2)), .int .i64 x11_1] rfl (by (try simp only [List.map_toArray, List.map_cons, List.map_nil]); first | done | rfl | (simp only [List.length_drop, List.length_take]; rfl)) ?_; (with_reducible refine (fettleref01_bit.calls (IntKind.u64.wrap (a2)) x11_1 t131 _ A10.out).mono ?_); rintro e w' ⟨rfl, ⟨nd, rfl⟩⟩; refine ⟨_, rfl, ?_⟩) | ((with_reducible refine gate_callee (f := 19) rfl ?_); refine goesL_ (some 48) rfl rfl Try.func19 (by kernel_rfl) rfl #[.int .u64 x10_1, .int .u64 ji13, .int .u64 0] rfl (by (try simp only [List.map_toArray, List.map_cons, List.map_nil]); first | done | (simp only [hji13]; rfl) | rfl | (simp only [List.length_drop, List.length_take]; rfl)) ?_; (with_reducible refine (fettleref01_add.calls k1 x10_1 ji13 0 t132 _ A14.out).mono ?_); rintro e w' ⟨rfl, ⟨nd, rfl⟩⟩; refine ⟨_, rfl, ?_⟩))
                  go_roundg k1
                  case measure => have := HK1.out; omega
                  case rel => exact ⟨(t132), (wrap64 (x11_1 + 1)), (by first | rfl | (simp; done) | (simp [*]; done)), (by first | rfl | (simp; done) | (simp [*]; done)), H', ⟨by have := HK1.out; omega⟩, by repeat (first | exact Drawn0.refl _ | apply Drawn0.step)⟩
                · rw [if_neg c12] at H
                  exact absurd H (by simp)
              · rw [if_neg c11] at H
                have c11b0 : (t131 == 1) = false := beq_eq_false_iff_ne.mpr c11
                have c11b1 : (t131 != 1) = true := bne_iff_ne.mpr c11
                have H' := Aside0.mk H
                clear H
                go_wp2_with (first | ((with_reducible refine gate_callee (f := 21) rfl ?_); refine goesL_ (some 42) rfl rfl Try.func21 (by kernel_rfl) rfl #[.int .u64 (IntKind.u64.wrap (a2)), .int .i64 x11_1] rfl (by (try simp only [List.map_toArray, List.map_cons, List.map_nil]); first | done | rfl | (simp only [List.length_drop, List.length_take]; rfl)) ?_; (with_reducible refine (fettleref01_bit.calls (IntKind.u64.wrap (a2)) x11_1 t131 _ A10.out).mono ?_); rintro e w' ⟨rfl, ⟨nd, rfl⟩⟩; refine ⟨_, rfl, ?_⟩))
                go_roundg k1
                case measure => have := HK1.out; omega
                case rel => exact ⟨(x10_1), (wrap64 (x11_1 + 1)), (by first | rfl | (simp; done) | (simp [*]; done)), (by first | rfl | (simp; done) | (simp [*]; done)), H', ⟨by have := HK1.out; omega⟩, by repeat (first | exact Drawn0.refl _ | apply Drawn0.step)⟩
            · rw [if_neg c9] at H
              have c9b0 : decide (x11_1 < 64) = false := decide_eq_false c9
              clear c9
              simp only [Option.some.injEq, Prod.mk.injEq] at H
              obtain ⟨rfl, rfl⟩ := H
              go_wp2
              go_ret2
              exact ⟨by first | rfl | (simp; done) | (simp [*]; done) | (simp [show Go.RowKit.wrap64 0 = 0 by unfold Go.RowKit.wrap64; decide]; done), by repeat (first | exact Drawn0.refl _ | apply Drawn0.step)⟩
      · rw [if_neg c8] at H
        have c8b0 : (a0 == 5) = false := beq_eq_false_iff_ne.mpr c8
        have c8b1 : (a0 != 5) = true := bne_iff_ne.mpr c8
        have HC15 := Aside0.mk H
        clear H
        go_enter Try.func20, Try.ntmps20
        go_upto_if 49 with (fail)
        go_cut [49] (fun v49 wc => ∃ (kq : Nat) (x49_14 : Bool), v49 = .bool x49_14 ∧ Aside0 (fettleref01_two.j1 kq a0 a1 a2 (IntKind.u64.wrap (a1)) (IntKind.u64.wrap (a2)) 0 a0 x49_14 = some (r1, r2)) ∧ Aside0 (kq ≤ k) ∧ Drawn0 w wc)
        case first =>
          have H := HC15.out
          clear HC15
          by_cases c16 : a0 = 6
          · rw [if_pos c16] at H
            have c16b0 : (a0 == 6) = true := beq_iff_eq.mpr c16
            have c16b1 : (a0 != 6) = false := bne_eq_false_iff_eq.mpr c16
            clear c16
            (first | rw [c16b0] | (simp only [i64_w, i32_w]; rw [c16b0]) | skip)
            have H' := Aside0.mk H
            clear H
            go_wp2
            go_meet
            case rel => exact ⟨_, ((a0 == 6)), (by first | rfl | (simp; done) | (simp [*]; done)), H', ⟨by first | omega | exact Nat.le_refl _⟩, by repeat (first | exact Drawn0.refl _ | apply Drawn0.step)⟩
          · rw [if_neg c16] at H
            have c16b0 : (a0 == 6) = false := beq_eq_false_iff_ne.mpr c16
            have c16b1 : (a0 != 6) = true := bne_iff_ne.mpr c16
            (first | rw [c16b0] | (simp only [i64_w, i32_w]; rw [c16b0]) | skip)
            by_cases c17 : a0 = 7
            · rw [if_pos c17] at H
              have c17b0 : (a0 == 7) = true := beq_iff_eq.mpr c17
              have c17b1 : (a0 != 7) = false := bne_eq_false_iff_eq.mpr c17
              clear c17
              have H' := Aside0.mk H
              clear H
              go_wp2
              go_meet
              case rel => exact ⟨_, ((a0 == 7)), (by first | rfl | (simp; done) | (simp [*]; done)), H', ⟨by first | omega | exact Nat.le_refl _⟩, by repeat (first | exact Drawn0.refl _ | apply Drawn0.step)⟩
            · rw [if_neg c17] at H
              have c17b0 : (a0 == 7) = false := beq_eq_false_iff_ne.mpr c17
              have c17b1 : (a0 != 7) = true := bne_iff_ne.mpr c17
              have H' := Aside0.mk H
              clear H
              go_wp2
              go_meet
              case rel => exact ⟨_, ((a0 == 8)), (by first | rfl | (simp; done) | (simp [*]; done)), H', ⟨by first | omega | exact Nat.le_refl _⟩, by repeat (first | exact Drawn0.refl _ | apply Drawn0.step)⟩
        case rest =>
          clear HC15
          try clear c1
          try clear c2
          try clear p2
          try clear c4
          try clear c4b0
          try clear c4b1
          try clear c6
          try clear c6b0
          try clear c6b1
          try clear p6
          try clear c8
          try clear c8b0
          try clear c8b1
          try clear c9
          try clear c9b0
          try clear c11
          try clear c11b0
          try clear c11b1
          try clear c12
          try clear c12b0
          try clear c12b1
          try clear c16
          try clear c16b0
          try clear c16b1
          try clear c17
          try clear c17b0
          try clear c17b1
          try clear p2
          try clear p6
          obtain ⟨kq, x49_14, rfl, HA, HJ14, ⟨mc14, rfl⟩⟩ := hcut
          cases kq with
          | zero => exact absurd HA.out (by simp [fettleref01_two.j1])
          | succ kj14 =>
            have H := HA.out
            clear HA
            simp only [fettleref01_two.j1] at H
            by_cases c18 : x49_14 = true
            · subst c18
              have H1 : (fettleref01_two.l1 kj14 a0 (IntKind.u64.wrap (a1)) (IntKind.u64.wrap (a2)) 0 0) = some (r1, r2) := by rw [if_pos rfl] at H; exact H
              clear H
              have H := H1
              clear H1
              have H' := Aside0.mk H
              clear H
              go_wp2
              go_loopg [10, 12] kj14 (fun kq v10 v12 w' => ∃ (x10_2 : Int) (x12_2 : Int), v10 = .int .u64 x10_2 ∧ v12 = .int .i64 x12_2 ∧ Aside0 (fettleref01_two.l1 kq a0 (IntKind.u64.wrap (a1)) (IntKind.u64.wrap (a2)) x10_2 x12_2 = some (r1, r2)) ∧ Aside0 (kq ≤ kj14) ∧ Drawn0 w w')
              case atStart => exact ⟨(0), (0), (by first | rfl | (simp; done) | (simp [*]; done)), (by first | rfl | (simp; done) | (simp [*]; done)), H', ⟨Nat.le_refl _⟩, by repeat (first | exact Drawn0.refl _ | apply Drawn0.step)⟩
              case round =>
                clear H'
                try clear c1
                try clear c2
                try clear p2
                try clear c4
                try clear c4b0
                try clear c4b1
                try clear c6
                try clear c6b0
                try clear c6b1
                try clear p6
                try clear c8
                try clear c8b0
                try clear c8b1
                try clear c9
                try clear c9b0
                try clear c11
                try clear c11b0
                try clear c11b1
                try clear c12
                try clear c12b0
                try clear c12b1
                try clear c14
                try clear c16
                try clear c16b0
                try clear c16b1
                try clear c17
                try clear c17b0
                try clear c17b1
                try clear c18
                try clear p2
                try clear p6
                obtain ⟨x10_2, x12_2, rfl, rfl, HA, HK2, ⟨m2, rfl⟩⟩ := hrel
                cases gk with
                | zero => exact absurd HA.out (by simp [fettleref01_two.l1])
                | succ k2 =>
                  have H := HA.out
                  clear HA
                  simp only [fettleref01_two.l1] at H
                  by_cases c19 : x12_2 < 64
                  · rw [if_pos c19] at H
                    have c19b0 : decide (x12_2 < 64) = true := decide_eq_true c19
                    clear c19
                    replace H := Option.bind_eq_some_iff.mp H
                    obtain ⟨t133, A200, H⟩ := H
                    replace H : ((fettleref01_bit.f (IntKind.u64.wrap (a2)) x12_2).bind fun t134 => (if a0 = 6 then (if (IntKind.u64.wrap (t133 + t134)) = 2 then (if 0 ≤ x12_2 then (fettleref01_two.l1 k2 a0 (IntKind.u64.wrap (a1)) (IntKind.u64.wrap (a2)) (Go.bits .or .u64 x10_2 (shl .u64 1 x12_2)) (wrap64 (x12_2 + 1))) else (none)) else (if a0 = 7 then (if (IntKind.u64.wrap (t133 + t134)) > 0 then (if 0 ≤ x12_2 then (fettleref01_two.l1 k2 a0 (IntKind.u64.wrap (a1)) (IntKind.u64.wrap (a2)) (Go.bits .or .u64 x10_2 (shl .u64 1 x12_2)) (wrap64 (x12_2 + 1))) else (none)) else (if a0 = 8 then (if (IntKind.u64.wrap (t133 + t134)) = 1 then (if 0 ≤ x12_2 then (fettleref01_two.l1 k2 a0 (IntKind.u64.wrap (a1)) (IntKind.u64.wrap (a2)) (Go.bits .or .u64 x10_2 (shl .u64 1 x12_2)) (wrap64 (x12_2 + 1))) else (none)) else (fettleref01_two.l1 k2 a0 (IntKind.u64.wrap (a1)) (IntKind.u64.wrap (a2)) x10_2 (wrap64 (x12_2 + 1)))) else (fettleref01_two.l1 k2 a0 (IntKind.u64.wrap (a1)) (IntKind.u64.wrap (a2)) x10_2 (wrap64 (x12_2 + 1))))) else (if a0 = 8 then (if (IntKind.u64.wrap (t133 + t134)) = 1 then (if 0 ≤ x12_2 then (fettleref01_two.l1 k2 a0 (IntKind.u64.wrap (a1)) (IntKind.u64.wrap (a2)) (Go.bits .or .u64 x10_2 (shl .u64 1 x12_2)) (wrap64 (x12_2 + 1))) else (none)) else (fettleref01_two.l1 k2 a0 (IntKind.u64.wrap (a1)) (IntKind.u64.wrap (a2)) x10_2 (wrap64 (x12_2 + 1)))) else (fettleref01_two.l1 k2 a0 (IntKind.u64.wrap (a1)) (IntKind.u64.wrap (a2)) x10_2 (wrap64 (x12_2 + 1)))))) else (if a0 = 7 then (if (IntKind.u64.wrap (t133 + t134)) > 0 then (if 0 ≤ x12_2 then (fettleref01_two.l1 k2 a0 (IntKind.u64.wrap (a1)) (IntKind.u64.wrap (a2)) (Go.bits .or .u64 x10_2 (shl .u64 1 x12_2)) (wrap64 (x12_2 + 1))) else (none)) else (if a0 = 8 then (if (IntKind.u64.wrap (t133 + t134)) = 1 then (if 0 ≤ x12_2 then (fettleref01_two.l1 k2 a0 (IntKind.u64.wrap (a1)) (IntKind.u64.wrap (a2)) (Go.bits .or .u64 x10_2 (shl .u64 1 x12_2)) (wrap64 (x12_2 + 1))) else (none)) else (fettleref01_two.l1 k2 a0 (IntKind.u64.wrap (a1)) (IntKind.u64.wrap (a2)) x10_2 (wrap64 (x12_2 + 1)))) else (fettleref01_two.l1 k2 a0 (IntKind.u64.wrap (a1)) (IntKind.u64.wrap (a2)) x10_2 (wrap64 (x12_2 + 1))))) else (if a0 = 8 then (if (IntKind.u64.wrap (t133 + t134)) = 1 then (if 0 ≤ x12_2 then (fettleref01_two.l1 k2 a0 (IntKind.u64.wrap (a1)) (IntKind.u64.wrap (a2)) (Go.bits .or .u64 x10_2 (shl .u64 1 x12_2)) (wrap64 (x12_2 + 1))) else (none)) else (fettleref01_two.l1 k2 a0 (IntKind.u64.wrap (a1)) (IntKind.u64.wrap (a2)) x10_2 (wrap64 (x12_2 + 1)))) else (fettleref01_two.l1 k2 a0 (IntKind.u64.wrap (a1)) (IntKind.u64.wrap (a2)) x10_2 (wrap64 (x12_2 + 1))))))) = some (r1, r2) := H
                    have A20 := Aside0.mk A200
                    clear A200
                    replace H := Option.bind_eq_some_iff.mp H
                    obtain ⟨t134, A210, H⟩ := H
                    replace H : (if a0 = 6 then (if (IntKind.u64.wrap (t133 + t134)) = 2 then (if 0 ≤ x12_2 then (fettleref01_two.l1 k2 a0 (IntKind.u64.wrap (a1)) (IntKind.u64.wrap (a2)) (Go.bits .or .u64 x10_2 (shl .u64 1 x12_2)) (wrap64 (x12_2 + 1))) else (none)) else (if a0 = 7 then (if (IntKind.u64.wrap (t133 + t134)) > 0 then (if 0 ≤ x12_2 then (fettleref01_two.l1 k2 a0 (IntKind.u64.wrap (a1)) (IntKind.u64.wrap (a2)) (Go.bits .or .u64 x10_2 (shl .u64 1 x12_2)) (wrap64 (x12_2 + 1))) else (none)) else (if a0 = 8 then (if (IntKind.u64.wrap (t133 + t134)) = 1 then (if 0 ≤ x12_2 then (fettleref01_two.l1 k2 a0 (IntKind.u64.wrap (a1)) (IntKind.u64.wrap (a2)) (Go.bits .or .u64 x10_2 (shl .u64 1 x12_2)) (wrap64 (x12_2 + 1))) else (none)) else (fettleref01_two.l1 k2 a0 (IntKind.u64.wrap (a1)) (IntKind.u64.wrap (a2)) x10_2 (wrap64 (x12_2 + 1)))) else (fettleref01_two.l1 k2 a0 (IntKind.u64.wrap (a1)) (IntKind.u64.wrap (a2)) x10_2 (wrap64 (x12_2 + 1))))) else (if a0 = 8 then (if (IntKind.u64.wrap (t133 + t134)) = 1 then (if 0 ≤ x12_2 then (fettleref01_two.l1 k2 a0 (IntKind.u64.wrap (a1)) (IntKind.u64.wrap (a2)) (Go.bits .or .u64 x10_2 (shl .u64 1 x12_2)) (wrap64 (x12_2 + 1))) else (none)) else (fettleref01_two.l1 k2 a0 (IntKind.u64.wrap (a1)) (IntKind.u64.wrap (a2)) x10_2 (wrap64 (x12_2 + 1)))) else (fettleref01_two.l1 k2 a0 (IntKind.u64.wrap (a1)) (IntKind.u64.wrap (a2)) x10_2 (wrap64 (x12_2 + 1)))))) else (if a0 = 7 then (if (IntKind.u64.wrap (t133 + t134)) > 0 then (if 0 ≤ x12_2 then (fettleref01_two.l1 k2 a0 (IntKind.u64.wrap (a1)) (IntKind.u64.wrap (a2)) (Go.bits .or .u64 x10_2 (shl .u64 1 x12_2)) (wrap64 (x12_2 + 1))) else (none)) else (if a0 = 8 then (if (IntKind.u64.wrap (t133 + t134)) = 1 then (if 0 ≤ x12_2 then (fettleref01_two.l1 k2 a0 (IntKind.u64.wrap (a1)) (IntKind.u64.wrap (a2)) (Go.bits .or .u64 x10_2 (shl .u64 1 x12_2)) (wrap64 (x12_2 + 1))) else (none)) else (fettleref01_two.l1 k2 a0 (IntKind.u64.wrap (a1)) (IntKind.u64.wrap (a2)) x10_2 (wrap64 (x12_2 + 1)))) else (fettleref01_two.l1 k2 a0 (IntKind.u64.wrap (a1)) (IntKind.u64.wrap (a2)) x10_2 (wrap64 (x12_2 + 1))))) else (if a0 = 8 then (if (IntKind.u64.wrap (t133 + t134)) = 1 then (if 0 ≤ x12_2 then (fettleref01_two.l1 k2 a0 (IntKind.u64.wrap (a1)) (IntKind.u64.wrap (a2)) (Go.bits .or .u64 x10_2 (shl .u64 1 x12_2)) (wrap64 (x12_2 + 1))) else (none)) else (fettleref01_two.l1 k2 a0 (IntKind.u64.wrap (a1)) (IntKind.u64.wrap (a2)) x10_2 (wrap64 (x12_2 + 1)))) else (fettleref01_two.l1 k2 a0 (IntKind.u64.wrap (a1)) (IntKind.u64.wrap (a2)) x10_2 (wrap64 (x12_2 + 1)))))) = some (r1, r2) := H
                    have A21 := Aside0.mk A210
                    clear A210
                    by_cases c22 : a0 = 6
                    · rw [if_pos c22] at H
                      have c22b0 : (a0 == 6) = true := beq_iff_eq.mpr c22
                      have c22b1 : (a0 != 6) = false := bne_eq_false_iff_eq.mpr c22
                      clear c22
                      by_cases c23 : (IntKind.u64.wrap (t133 + t134)) = 2
                      · rw [if_pos c23] at H
                        have c23b0 : ((IntKind.u64.wrap (t133 + t134)) == 2) = true := beq_iff_eq.mpr c23
                        have c23b1 : ((IntKind.u64.wrap (t133 + t134)) != 2) = false := bne_eq_false_iff_eq.mpr c23
                        clear c23
                        by_cases c24 : 0 ≤ x12_2
                        · rw [if_pos c24] at H
                          have c24b0 := eq_true c24
                          have c24b1 : decide (0 ≤ x12_2) = true := decide_eq_true c24
                          clear c24
                          obtain ⟨ji25, hji25⟩ : ∃ j_ : Int, (shl .u64 1 x12_2) = j_ := ⟨_, rfl⟩
                          replace H : (fettleref01_two.l1 k2 a0 (IntKind.u64.wrap (a1)) (IntKind.u64.wrap (a2)) (Go.bits .or .u64 x10_2 (ji25)) (wrap64 (x12_2 + 1))) = some (r1, r2) := by first | (rw [hji25] at H; exact H) | (simp only [hji25] at H ⊢; exact H)
                          (try rw [hji25] at A20)
                          (try rw [hji25] at A21)
                          have hji25_ : (IntKind.u64.wrap (1 * 2 ^ min x12_2.toNat 64)) = ji25 := hji25
                          have hji25z : x12_2 ≤ 64 → (IntKind.u64.wrap (1 * 2 ^ x12_2.toNat)) = ji25 := shl_small hji25
                          have hji25u : (IntKind.u64.wrap (2 ^ min x12_2.toNat 64)) = ji25 := by have h_ := hji25_; rw [Int.one_mul] at h_; exact h_
                          have hji25v : x12_2 ≤ 64 → (IntKind.u64.wrap (2 ^ x12_2.toNat)) = ji25 := fun hle_ => by have h_ := hji25z hle_; rw [Int.one_mul] at h_; exact h_
                          have H' := Aside0.mk H
                          clear H
                          go_wp2_with (first | ((with_reducible refine gate_callee (f := 21) rfl ?_); refine goesL_ (some 59) rfl rfl Try.func21 (by kernel_rfl) rfl #[.int .u64 (IntKind.u64.wrap (a1)), .int .i64 x12_2] rfl (by (try simp only [List.map_toArray, List.map_cons, List.map_nil]); first | done | rfl | (simp only [List.length_drop, List.length_take]; rfl)) ?_; (with_reducible refine (fettleref01_bit.calls (IntKind.u64.wrap (a1)) x12_2 t133 _ A20.out).mono ?_); rintro e w' ⟨rfl, ⟨nd, rfl⟩⟩; refine ⟨_, rfl, ?_⟩) | ((with_reducible refine gate_callee (f := 21) rfl ?_); refine goesL_ (some 62) rfl rfl Try.func21 (by kernel_rfl) rfl #[.int .u64 (IntKind.u64.wrap (a2)), .int .i64 x12_2] rfl (by (try simp only [List.map_toArray, List.map_cons, List.map_nil]); first | done | rfl | (simp only [List.length_drop, List.length_take]; rfl)) ?_; (with_reducible refine (fettleref01_bit.calls (IntKind.u64.wrap (a2)) x12_2 t134 _ A21.out).mono ?_); rintro e w' ⟨rfl, ⟨nd, rfl⟩⟩; refine ⟨_, rfl, ?_⟩))
                          go_roundg k2
                          case measure => have := HJ14.out; have := HK2.out; omega
                          case rel => exact ⟨(Go.bits .or .u64 x10_2 (ji25)), (wrap64 (x12_2 + 1)), (by first | rfl | (simp; done) | (rw [hji25v (by simp only [decide_eq_true_eq] at *; omega)]; done) | (simp only [← hji25] <;> (first | rfl | simp)) | (simp [*]; done)), (by first | rfl | (simp; done) | (simp [*]; done)), H', ⟨by have := HJ14.out; have := HK2.out; omega⟩, by repeat (first | exact Drawn0.refl _ | apply Drawn0.step)⟩
                        · rw [if_neg c24] at H
                          exact absurd H (by simp)
                      · rw [if_neg c23] at H
                        have c23b0 : ((IntKind.u64.wrap (t133 + t134)) == 2) = false := beq_eq_false_iff_ne.mpr c23
                        have c23b1 : ((IntKind.u64.wrap (t133 + t134)) != 2) = true := bne_iff_ne.mpr c23
                        by_cases c26 : a0 = 7
                        · rw [if_pos c26] at H
                          have c26b0 : (a0 == 7) = true := beq_iff_eq.mpr c26
                          have c26b1 : (a0 != 7) = false := bne_eq_false_iff_eq.mpr c26
                          clear c26
                          by_cases c27 : (IntKind.u64.wrap (t133 + t134)) > 0
                          · rw [if_pos c27] at H
                            have c27b0 : decide (0 < (IntKind.u64.wrap (t133 + t134))) = true := decide_eq_true c27
                            clear c27
                            by_cases c28 : 0 ≤ x12_2
                            · rw [if_pos c28] at H
                              have c28b0 := eq_true c28
                              have c28b1 : decide (0 ≤ x12_2) = true := decide_eq_true c28
                              clear c28
                              obtain ⟨ji29, hji29⟩ : ∃ j_ : Int, (shl .u64 1 x12_2) = j_ := ⟨_, rfl⟩
                              replace H : (fettleref01_two.l1 k2 a0 (IntKind.u64.wrap (a1)) (IntKind.u64.wrap (a2)) (Go.bits .or .u64 x10_2 (ji29)) (wrap64 (x12_2 + 1))) = some (r1, r2) := by first | (rw [hji29] at H; exact H) | (simp only [hji29] at H ⊢; exact H)
                              (try rw [hji29] at A20)
                              (try rw [hji29] at A21)
                              have hji29_ : (IntKind.u64.wrap (1 * 2 ^ min x12_2.toNat 64)) = ji29 := hji29
                              have hji29z : x12_2 ≤ 64 → (IntKind.u64.wrap (1 * 2 ^ x12_2.toNat)) = ji29 := shl_small hji29
                              have hji29u : (IntKind.u64.wrap (2 ^ min x12_2.toNat 64)) = ji29 := by have h_ := hji29_; rw [Int.one_mul] at h_; exact h_
                              have hji29v : x12_2 ≤ 64 → (IntKind.u64.wrap (2 ^ x12_2.toNat)) = ji29 := fun hle_ => by have h_ := hji29z hle_; rw [Int.one_mul] at h_; exact h_
                              have H' := Aside0.mk H
                              clear H
                              go_wp2_with (first | ((with_reducible refine gate_callee (f := 21) rfl ?_); refine goesL_ (some 59) rfl rfl Try.func21 (by kernel_rfl) rfl #[.int .u64 (IntKind.u64.wrap (a1)), .int .i64 x12_2] rfl (by (try simp only [List.map_toArray, List.map_cons, List.map_nil]); first | done | rfl | (simp only [List.length_drop, List.length_take]; rfl)) ?_; (with_reducible refine (fettleref01_bit.calls (IntKind.u64.wrap (a1)) x12_2 t133 _ A20.out).mono ?_); rintro e w' ⟨rfl, ⟨nd, rfl⟩⟩; refine ⟨_, rfl, ?_⟩) | ((with_reducible refine gate_callee (f := 21) rfl ?_); refine goesL_ (some 62) rfl rfl Try.func21 (by kernel_rfl) rfl #[.int .u64 (IntKind.u64.wrap (a2)), .int .i64 x12_2] rfl (by (try simp only [List.map_toArray, List.map_cons, List.map_nil]); first | done | rfl | (simp only [List.length_drop, List.length_take]; rfl)) ?_; (with_reducible refine (fettleref01_bit.calls (IntKind.u64.wrap (a2)) x12_2 t134 _ A21.out).mono ?_); rintro e w' ⟨rfl, ⟨nd, rfl⟩⟩; refine ⟨_, rfl, ?_⟩))
                              go_roundg k2
                              case measure => have := HJ14.out; have := HK2.out; omega
                              case rel => exact ⟨(Go.bits .or .u64 x10_2 (ji29)), (wrap64 (x12_2 + 1)), (by first | rfl | (simp; done) | (rw [hji29v (by simp only [decide_eq_true_eq] at *; omega)]; done) | (simp only [← hji29] <;> (first | rfl | simp)) | (simp [*]; done)), (by first | rfl | (simp; done) | (simp [*]; done)), H', ⟨by have := HJ14.out; have := HK2.out; omega⟩, by repeat (first | exact Drawn0.refl _ | apply Drawn0.step)⟩
                            · rw [if_neg c28] at H
                              exact absurd H (by simp)
                          · rw [if_neg c27] at H
                            have c27b0 : decide (0 < (IntKind.u64.wrap (t133 + t134))) = false := decide_eq_false c27
                            clear c27
                            by_cases c30 : a0 = 8
                            · rw [if_pos c30] at H
                              have c30b0 : (a0 == 8) = true := beq_iff_eq.mpr c30
                              have c30b1 : (a0 != 8) = false := bne_eq_false_iff_eq.mpr c30
                              clear c30
                              by_cases c31 : (IntKind.u64.wrap (t133 + t134)) = 1
                              · rw [if_pos c31] at H
                                have c31b0 : ((IntKind.u64.wrap (t133 + t134)) == 1) = true := beq_iff_eq.mpr c31
                                have c31b1 : ((IntKind.u64.wrap (t133 + t134)) != 1) = false := bne_eq_false_iff_eq.mpr c31
                                clear c31
                                by_cases c32 : 0 ≤ x12_2
                                · rw [if_pos c32] at H
                                  have c32b0 := eq_true c32
                                  have c32b1 : decide (0 ≤ x12_2) = true := decide_eq_true c32
                                  clear c32
                                  obtain ⟨ji33, hji33⟩ : ∃ j_ : Int, (shl .u64 1 x12_2) = j_ := ⟨_, rfl⟩
                                  replace H : (fettleref01_two.l1 k2 a0 (IntKind.u64.wrap (a1)) (IntKind.u64.wrap (a2)) (Go.bits .or .u64 x10_2 (ji33)) (wrap64 (x12_2 + 1))) = some (r1, r2) := by first | (rw [hji33] at H; exact H) | (simp only [hji33] at H ⊢; exact H)
                                  (try rw [hji33] at A20)
                                  (try rw [hji33] at A21)
                                  have hji33_ : (IntKind.u64.wrap (1 * 2 ^ min x12_2.toNat 64)) = ji33 := hji33
                                  have hji33z : x12_2 ≤ 64 → (IntKind.u64.wrap (1 * 2 ^ x12_2.toNat)) = ji33 := shl_small hji33
                                  have hji33u : (IntKind.u64.wrap (2 ^ min x12_2.toNat 64)) = ji33 := by have h_ := hji33_; rw [Int.one_mul] at h_; exact h_
                                  have hji33v : x12_2 ≤ 64 → (IntKind.u64.wrap (2 ^ x12_2.toNat)) = ji33 := fun hle_ => by have h_ := hji33z hle_; rw [Int.one_mul] at h_; exact h_
                                  have H' := Aside0.mk H
                                  clear H
                                  go_wp2_with (first | ((with_reducible refine gate_callee (f := 21) rfl ?_); refine goesL_ (some 59) rfl rfl Try.func21 (by kernel_rfl) rfl #[.int .u64 (IntKind.u64.wrap (a1)), .int .i64 x12_2] rfl (by (try simp only [List.map_toArray, List.map_cons, List.map_nil]); first | done | rfl | (simp only [List.length_drop, List.length_take]; rfl)) ?_; (with_reducible refine (fettleref01_bit.calls (IntKind.u64.wrap (a1)) x12_2 t133 _ A20.out).mono ?_); rintro e w' ⟨rfl, ⟨nd, rfl⟩⟩; refine ⟨_, rfl, ?_⟩) | ((with_reducible refine gate_callee (f := 21) rfl ?_); refine goesL_ (some 62) rfl rfl Try.func21 (by kernel_rfl) rfl #[.int .u64 (IntKind.u64.wrap (a2)), .int .i64 x12_2] rfl (by (try simp only [List.map_toArray, List.map_cons, List.map_nil]); first | done | rfl | (simp only [List.length_drop, List.length_take]; rfl)) ?_; (with_reducible refine (fettleref01_bit.calls (IntKind.u64.wrap (a2)) x12_2 t134 _ A21.out).mono ?_); rintro e w' ⟨rfl, ⟨nd, rfl⟩⟩; refine ⟨_, rfl, ?_⟩))
                                  go_roundg k2
                                  case measure => have := HJ14.out; have := HK2.out; omega
                                  case rel => exact ⟨(Go.bits .or .u64 x10_2 (ji33)), (wrap64 (x12_2 + 1)), (by first | rfl | (simp; done) | (rw [hji33v (by simp only [decide_eq_true_eq] at *; omega)]; done) | (simp only [← hji33] <;> (first | rfl | simp)) | (simp [*]; done)), (by first | rfl | (simp; done) | (simp [*]; done)), H', ⟨by have := HJ14.out; have := HK2.out; omega⟩, by repeat (first | exact Drawn0.refl _ | apply Drawn0.step)⟩
                                · rw [if_neg c32] at H
                                  exact absurd H (by simp)
                              · rw [if_neg c31] at H
                                have c31b0 : ((IntKind.u64.wrap (t133 + t134)) == 1) = false := beq_eq_false_iff_ne.mpr c31
                                have c31b1 : ((IntKind.u64.wrap (t133 + t134)) != 1) = true := bne_iff_ne.mpr c31
                                have H' := Aside0.mk H
                                clear H
                                go_wp2_with (first | ((with_reducible refine gate_callee (f := 21) rfl ?_); refine goesL_ (some 59) rfl rfl Try.func21 (by kernel_rfl) rfl #[.int .u64 (IntKind.u64.wrap (a1)), .int .i64 x12_2] rfl (by (try simp only [List.map_toArray, List.map_cons, List.map_nil]); first | done | rfl | (simp only [List.length_drop, List.length_take]; rfl)) ?_; (with_reducible refine (fettleref01_bit.calls (IntKind.u64.wrap (a1)) x12_2 t133 _ A20.out).mono ?_); rintro e w' ⟨rfl, ⟨nd, rfl⟩⟩; refine ⟨_, rfl, ?_⟩) | ((with_reducible refine gate_callee (f := 21) rfl ?_); refine goesL_ (some 62) rfl rfl Try.func21 (by kernel_rfl) rfl #[.int .u64 (IntKind.u64.wrap (a2)), .int .i64 x12_2] rfl (by (try simp only [List.map_toArray, List.map_cons, List.map_nil]); first | done | rfl | (simp only [List.length_drop, List.length_take]; rfl)) ?_; (with_reducible refine (fettleref01_bit.calls (IntKind.u64.wrap (a2)) x12_2 t134 _ A21.out).mono ?_); rintro e w' ⟨rfl, ⟨nd, rfl⟩⟩; refine ⟨_, rfl, ?_⟩))
                                go_roundg k2
                                case measure => have := HJ14.out; have := HK2.out; omega
                                case rel => exact ⟨(x10_2), (wrap64 (x12_2 + 1)), (by first | rfl | (simp; done) | (simp [*]; done)), (by first | rfl | (simp; done) | (simp [*]; done)), H', ⟨by have := HJ14.out; have := HK2.out; omega⟩, by repeat (first | exact Drawn0.refl _ | apply Drawn0.step)⟩
                            · rw [if_neg c30] at H
                              have c30b0 : (a0 == 8) = false := beq_eq_false_iff_ne.mpr c30
                              have c30b1 : (a0 != 8) = true := bne_iff_ne.mpr c30
                              have H' := Aside0.mk H
                              clear H
                              go_wp2_with (first | ((with_reducible refine gate_callee (f := 21) rfl ?_); refine goesL_ (some 59) rfl rfl Try.func21 (by kernel_rfl) rfl #[.int .u64 (IntKind.u64.wrap (a1)), .int .i64 x12_2] rfl (by (try simp only [List.map_toArray, List.map_cons, List.map_nil]); first | done | rfl | (simp only [List.length_drop, List.length_take]; rfl)) ?_; (with_reducible refine (fettleref01_bit.calls (IntKind.u64.wrap (a1)) x12_2 t133 _ A20.out).mono ?_); rintro e w' ⟨rfl, ⟨nd, rfl⟩⟩; refine ⟨_, rfl, ?_⟩) | ((with_reducible refine gate_callee (f := 21) rfl ?_); refine goesL_ (some 62) rfl rfl Try.func21 (by kernel_rfl) rfl #[.int .u64 (IntKind.u64.wrap (a2)), .int .i64 x12_2] rfl (by (try simp only [List.map_toArray, List.map_cons, List.map_nil]); first | done | rfl | (simp only [List.length_drop, List.length_take]; rfl)) ?_; (with_reducible refine (fettleref01_bit.calls (IntKind.u64.wrap (a2)) x12_2 t134 _ A21.out).mono ?_); rintro e w' ⟨rfl, ⟨nd, rfl⟩⟩; refine ⟨_, rfl, ?_⟩))
                              go_roundg k2
                              case measure => have := HJ14.out; have := HK2.out; omega
                              case rel => exact ⟨(x10_2), (wrap64 (x12_2 + 1)), (by first | rfl | (simp; done) | (simp [*]; done)), (by first | rfl | (simp; done) | (simp [*]; done)), H', ⟨by have := HJ14.out; have := HK2.out; omega⟩, by repeat (first | exact Drawn0.refl _ | apply Drawn0.step)⟩
                        · rw [if_neg c26] at H
                          have c26b0 : (a0 == 7) = false := beq_eq_false_iff_ne.mpr c26
                          have c26b1 : (a0 != 7) = true := bne_iff_ne.mpr c26
                          by_cases c34 : a0 = 8
                          · rw [if_pos c34] at H
                            have c34b0 : (a0 == 8) = true := beq_iff_eq.mpr c34
                            have c34b1 : (a0 != 8) = false := bne_eq_false_iff_eq.mpr c34
                            clear c34
                            by_cases c35 : (IntKind.u64.wrap (t133 + t134)) = 1
                            · rw [if_pos c35] at H
                              have c35b0 : ((IntKind.u64.wrap (t133 + t134)) == 1) = true := beq_iff_eq.mpr c35
                              have c35b1 : ((IntKind.u64.wrap (t133 + t134)) != 1) = false := bne_eq_false_iff_eq.mpr c35
                              clear c35
                              by_cases c36 : 0 ≤ x12_2
                              · rw [if_pos c36] at H
                                have c36b0 := eq_true c36
                                have c36b1 : decide (0 ≤ x12_2) = true := decide_eq_true c36
                                clear c36
                                obtain ⟨ji37, hji37⟩ : ∃ j_ : Int, (shl .u64 1 x12_2) = j_ := ⟨_, rfl⟩
                                replace H : (fettleref01_two.l1 k2 a0 (IntKind.u64.wrap (a1)) (IntKind.u64.wrap (a2)) (Go.bits .or .u64 x10_2 (ji37)) (wrap64 (x12_2 + 1))) = some (r1, r2) := by first | (rw [hji37] at H; exact H) | (simp only [hji37] at H ⊢; exact H)
                                (try rw [hji37] at A20)
                                (try rw [hji37] at A21)
                                have hji37_ : (IntKind.u64.wrap (1 * 2 ^ min x12_2.toNat 64)) = ji37 := hji37
                                have hji37z : x12_2 ≤ 64 → (IntKind.u64.wrap (1 * 2 ^ x12_2.toNat)) = ji37 := shl_small hji37
                                have hji37u : (IntKind.u64.wrap (2 ^ min x12_2.toNat 64)) = ji37 := by have h_ := hji37_; rw [Int.one_mul] at h_; exact h_
                                have hji37v : x12_2 ≤ 64 → (IntKind.u64.wrap (2 ^ x12_2.toNat)) = ji37 := fun hle_ => by have h_ := hji37z hle_; rw [Int.one_mul] at h_; exact h_
                                have H' := Aside0.mk H
                                clear H
                                go_wp2_with (first | ((with_reducible refine gate_callee (f := 21) rfl ?_); refine goesL_ (some 59) rfl rfl Try.func21 (by kernel_rfl) rfl #[.int .u64 (IntKind.u64.wrap (a1)), .int .i64 x12_2] rfl (by (try simp only [List.map_toArray, List.map_cons, List.map_nil]); first | done | rfl | (simp only [List.length_drop, List.length_take]; rfl)) ?_; (with_reducible refine (fettleref01_bit.calls (IntKind.u64.wrap (a1)) x12_2 t133 _ A20.out).mono ?_); rintro e w' ⟨rfl, ⟨nd, rfl⟩⟩; refine ⟨_, rfl, ?_⟩) | ((with_reducible refine gate_callee (f := 21) rfl ?_); refine goesL_ (some 62) rfl rfl Try.func21 (by kernel_rfl) rfl #[.int .u64 (IntKind.u64.wrap (a2)), .int .i64 x12_2] rfl (by (try simp only [List.map_toArray, List.map_cons, List.map_nil]); first | done | rfl | (simp only [List.length_drop, List.length_take]; rfl)) ?_; (with_reducible refine (fettleref01_bit.calls (IntKind.u64.wrap (a2)) x12_2 t134 _ A21.out).mono ?_); rintro e w' ⟨rfl, ⟨nd, rfl⟩⟩; refine ⟨_, rfl, ?_⟩))
                                go_roundg k2
                                case measure => have := HJ14.out; have := HK2.out; omega
                                case rel => exact ⟨(Go.bits .or .u64 x10_2 (ji37)), (wrap64 (x12_2 + 1)), (by first | rfl | (simp; done) | (rw [hji37v (by simp only [decide_eq_true_eq] at *; omega)]; done) | (simp only [← hji37] <;> (first | rfl | simp)) | (simp [*]; done)), (by first | rfl | (simp; done) | (simp [*]; done)), H', ⟨by have := HJ14.out; have := HK2.out; omega⟩, by repeat (first | exact Drawn0.refl _ | apply Drawn0.step)⟩
                              · rw [if_neg c36] at H
                                exact absurd H (by simp)
                            · rw [if_neg c35] at H
                              have c35b0 : ((IntKind.u64.wrap (t133 + t134)) == 1) = false := beq_eq_false_iff_ne.mpr c35
                              have c35b1 : ((IntKind.u64.wrap (t133 + t134)) != 1) = true := bne_iff_ne.mpr c35
                              have H' := Aside0.mk H
                              clear H
                              go_wp2_with (first | ((with_reducible refine gate_callee (f := 21) rfl ?_); refine goesL_ (some 59) rfl rfl Try.func21 (by kernel_rfl) rfl #[.int .u64 (IntKind.u64.wrap (a1)), .int .i64 x12_2] rfl (by (try simp only [List.map_toArray, List.map_cons, List.map_nil]); first | done | rfl | (simp only [List.length_drop, List.length_take]; rfl)) ?_; (with_reducible refine (fettleref01_bit.calls (IntKind.u64.wrap (a1)) x12_2 t133 _ A20.out).mono ?_); rintro e w' ⟨rfl, ⟨nd, rfl⟩⟩; refine ⟨_, rfl, ?_⟩) | ((with_reducible refine gate_callee (f := 21) rfl ?_); refine goesL_ (some 62) rfl rfl Try.func21 (by kernel_rfl) rfl #[.int .u64 (IntKind.u64.wrap (a2)), .int .i64 x12_2] rfl (by (try simp only [List.map_toArray, List.map_cons, List.map_nil]); first | done | rfl | (simp only [List.length_drop, List.length_take]; rfl)) ?_; (with_reducible refine (fettleref01_bit.calls (IntKind.u64.wrap (a2)) x12_2 t134 _ A21.out).mono ?_); rintro e w' ⟨rfl, ⟨nd, rfl⟩⟩; refine ⟨_, rfl, ?_⟩))
                              go_roundg k2
                              case measure => have := HJ14.out; have := HK2.out; omega
                              case rel => exact ⟨(x10_2), (wrap64 (x12_2 + 1)), (by first | rfl | (simp; done) | (simp [*]; done)), (by first | rfl | (simp; done) | (simp [*]; done)), H', ⟨by have := HJ14.out; have := HK2.out; omega⟩, by repeat (first | exact Drawn0.refl _ | apply Drawn0.step)⟩
                          · rw [if_neg c34] at H
                            have c34b0 : (a0 == 8) = false := beq_eq_false_iff_ne.mpr c34
                            have c34b1 : (a0 != 8) = true := bne_iff_ne.mpr c34
                            have H' := Aside0.mk H
                            clear H
                            go_wp2_with (first | ((with_reducible refine gate_callee (f := 21) rfl ?_); refine goesL_ (some 59) rfl rfl Try.func21 (by kernel_rfl) rfl #[.int .u64 (IntKind.u64.wrap (a1)), .int .i64 x12_2] rfl (by (try simp only [List.map_toArray, List.map_cons, List.map_nil]); first | done | rfl | (simp only [List.length_drop, List.length_take]; rfl)) ?_; (with_reducible refine (fettleref01_bit.calls (IntKind.u64.wrap (a1)) x12_2 t133 _ A20.out).mono ?_); rintro e w' ⟨rfl, ⟨nd, rfl⟩⟩; refine ⟨_, rfl, ?_⟩) | ((with_reducible refine gate_callee (f := 21) rfl ?_); refine goesL_ (some 62) rfl rfl Try.func21 (by kernel_rfl) rfl #[.int .u64 (IntKind.u64.wrap (a2)), .int .i64 x12_2] rfl (by (try simp only [List.map_toArray, List.map_cons, List.map_nil]); first | done | rfl | (simp only [List.length_drop, List.length_take]; rfl)) ?_; (with_reducible refine (fettleref01_bit.calls (IntKind.u64.wrap (a2)) x12_2 t134 _ A21.out).mono ?_); rintro e w' ⟨rfl, ⟨nd, rfl⟩⟩; refine ⟨_, rfl, ?_⟩))
                            go_roundg k2
                            case measure => have := HJ14.out; have := HK2.out; omega
                            case rel => exact ⟨(x10_2), (wrap64 (x12_2 + 1)), (by first | rfl | (simp; done) | (simp [*]; done)), (by first | rfl | (simp; done) | (simp [*]; done)), H', ⟨by have := HJ14.out; have := HK2.out; omega⟩, by repeat (first | exact Drawn0.refl _ | apply Drawn0.step)⟩
                    · rw [if_neg c22] at H
                      have c22b0 : (a0 == 6) = false := beq_eq_false_iff_ne.mpr c22
                      have c22b1 : (a0 != 6) = true := bne_iff_ne.mpr c22
                      by_cases c38 : a0 = 7
                      · rw [if_pos c38] at H
                        have c38b0 : (a0 == 7) = true := beq_iff_eq.mpr c38
                        have c38b1 : (a0 != 7) = false := bne_eq_false_iff_eq.mpr c38
                        clear c38
                        by_cases c39 : (IntKind.u64.wrap (t133 + t134)) > 0
                        · rw [if_pos c39] at H
                          have c39b0 : decide (0 < (IntKind.u64.wrap (t133 + t134))) = true := decide_eq_true c39
                          clear c39
                          by_cases c40 : 0 ≤ x12_2
                          · rw [if_pos c40] at H
                            have c40b0 := eq_true c40
                            have c40b1 : decide (0 ≤ x12_2) = true := decide_eq_true c40
                            clear c40
                            obtain ⟨ji41, hji41⟩ : ∃ j_ : Int, (shl .u64 1 x12_2) = j_ := ⟨_, rfl⟩
                            replace H : (fettleref01_two.l1 k2 a0 (IntKind.u64.wrap (a1)) (IntKind.u64.wrap (a2)) (Go.bits .or .u64 x10_2 (ji41)) (wrap64 (x12_2 + 1))) = some (r1, r2) := by first | (rw [hji41] at H; exact H) | (simp only [hji41] at H ⊢; exact H)
                            (try rw [hji41] at A20)
                            (try rw [hji41] at A21)
                            have hji41_ : (IntKind.u64.wrap (1 * 2 ^ min x12_2.toNat 64)) = ji41 := hji41
                            have hji41z : x12_2 ≤ 64 → (IntKind.u64.wrap (1 * 2 ^ x12_2.toNat)) = ji41 := shl_small hji41
                            have hji41u : (IntKind.u64.wrap (2 ^ min x12_2.toNat 64)) = ji41 := by have h_ := hji41_; rw [Int.one_mul] at h_; exact h_
                            have hji41v : x12_2 ≤ 64 → (IntKind.u64.wrap (2 ^ x12_2.toNat)) = ji41 := fun hle_ => by have h_ := hji41z hle_; rw [Int.one_mul] at h_; exact h_
                            have H' := Aside0.mk H
                            clear H
                            go_wp2_with (first | ((with_reducible refine gate_callee (f := 21) rfl ?_); refine goesL_ (some 59) rfl rfl Try.func21 (by kernel_rfl) rfl #[.int .u64 (IntKind.u64.wrap (a1)), .int .i64 x12_2] rfl (by (try simp only [List.map_toArray, List.map_cons, List.map_nil]); first | done | rfl | (simp only [List.length_drop, List.length_take]; rfl)) ?_; (with_reducible refine (fettleref01_bit.calls (IntKind.u64.wrap (a1)) x12_2 t133 _ A20.out).mono ?_); rintro e w' ⟨rfl, ⟨nd, rfl⟩⟩; refine ⟨_, rfl, ?_⟩) | ((with_reducible refine gate_callee (f := 21) rfl ?_); refine goesL_ (some 62) rfl rfl Try.func21 (by kernel_rfl) rfl #[.int .u64 (IntKind.u64.wrap (a2)), .int .i64 x12_2] rfl (by (try simp only [List.map_toArray, List.map_cons, List.map_nil]); first | done | rfl | (simp only [List.length_drop, List.length_take]; rfl)) ?_; (with_reducible refine (fettleref01_bit.calls (IntKind.u64.wrap (a2)) x12_2 t134 _ A21.out).mono ?_); rintro e w' ⟨rfl, ⟨nd, rfl⟩⟩; refine ⟨_, rfl, ?_⟩))
                            go_roundg k2
                            case measure => have := HJ14.out; have := HK2.out; omega
                            case rel => exact ⟨(Go.bits .or .u64 x10_2 (ji41)), (wrap64 (x12_2 + 1)), (by first | rfl | (simp; done) | (rw [hji41v (by simp only [decide_eq_true_eq] at *; omega)]; done) | (simp only [← hji41] <;> (first | rfl | simp)) | (simp [*]; done)), (by first | rfl | (simp; done) | (simp [*]; done)), H', ⟨by have := HJ14.out; have := HK2.out; omega⟩, by repeat (first | exact Drawn0.refl _ | apply Drawn0.step)⟩
                          · rw [if_neg c40] at H
                            exact absurd H (by simp)
                        · rw [if_neg c39] at H
                          have c39b0 : decide (0 < (IntKind.u64.wrap (t133 + t134))) = false := decide_eq_false c39
                          clear c39
                          by_cases c42 : a0 = 8
                          · rw [if_pos c42] at H
                            have c42b0 : (a0 == 8) = true := beq_iff_eq.mpr c42
                            have c42b1 : (a0 != 8) = false := bne_eq_false_iff_eq.mpr c42
                            clear c42
                            by_cases c43 : (IntKind.u64.wrap (t133 + t134)) = 1
                            · rw [if_pos c43] at H
                              have c43b0 : ((IntKind.u64.wrap (t133 + t134)) == 1) = true := beq_iff_eq.mpr c43
                              have c43b1 : ((IntKind.u64.wrap (t133 + t134)) != 1) = false := bne_eq_false_iff_eq.mpr c43
                              clear c43
                              by_cases c44 : 0 ≤ x12_2
                              · rw [if_pos c44] at H
                                have c44b0 := eq_true c44
                                have c44b1 : decide (0 ≤ x12_2) = true := decide_eq_true c44
                                clear c44
                                obtain ⟨ji45, hji45⟩ : ∃ j_ : Int, (shl .u64 1 x12_2) = j_ := ⟨_, rfl⟩
                                replace H : (fettleref01_two.l1 k2 a0 (IntKind.u64.wrap (a1)) (IntKind.u64.wrap (a2)) (Go.bits .or .u64 x10_2 (ji45)) (wrap64 (x12_2 + 1))) = some (r1, r2) := by first | (rw [hji45] at H; exact H) | (simp only [hji45] at H ⊢; exact H)
                                (try rw [hji45] at A20)
                                (try rw [hji45] at A21)
                                have hji45_ : (IntKind.u64.wrap (1 * 2 ^ min x12_2.toNat 64)) = ji45 := hji45
                                have hji45z : x12_2 ≤ 64 → (IntKind.u64.wrap (1 * 2 ^ x12_2.toNat)) = ji45 := shl_small hji45
                                have hji45u : (IntKind.u64.wrap (2 ^ min x12_2.toNat 64)) = ji45 := by have h_ := hji45_; rw [Int.one_mul] at h_; exact h_
                                have hji45v : x12_2 ≤ 64 → (IntKind.u64.wrap (2 ^ x12_2.toNat)) = ji45 := fun hle_ => by have h_ := hji45z hle_; rw [Int.one_mul] at h_; exact h_
                                have H' := Aside0.mk H
                                clear H
                                go_wp2_with (first | ((with_reducible refine gate_callee (f := 21) rfl ?_); refine goesL_ (some 59) rfl rfl Try.func21 (by kernel_rfl) rfl #[.int .u64 (IntKind.u64.wrap (a1)), .int .i64 x12_2] rfl (by (try simp only [List.map_toArray, List.map_cons, List.map_nil]); first | done | rfl | (simp only [List.length_drop, List.length_take]; rfl)) ?_; (with_reducible refine (fettleref01_bit.calls (IntKind.u64.wrap (a1)) x12_2 t133 _ A20.out).mono ?_); rintro e w' ⟨rfl, ⟨nd, rfl⟩⟩; refine ⟨_, rfl, ?_⟩) | ((with_reducible refine gate_callee (f := 21) rfl ?_); refine goesL_ (some 62) rfl rfl Try.func21 (by kernel_rfl) rfl #[.int .u64 (IntKind.u64.wrap (a2)), .int .i64 x12_2] rfl (by (try simp only [List.map_toArray, List.map_cons, List.map_nil]); first | done | rfl | (simp only [List.length_drop, List.length_take]; rfl)) ?_; (with_reducible refine (fettleref01_bit.calls (IntKind.u64.wrap (a2)) x12_2 t134 _ A21.out).mono ?_); rintro e w' ⟨rfl, ⟨nd, rfl⟩⟩; refine ⟨_, rfl, ?_⟩))
                                go_roundg k2
                                case measure => have := HJ14.out; have := HK2.out; omega
                                case rel => exact ⟨(Go.bits .or .u64 x10_2 (ji45)), (wrap64 (x12_2 + 1)), (by first | rfl | (simp; done) | (rw [hji45v (by simp only [decide_eq_true_eq] at *; omega)]; done) | (simp only [← hji45] <;> (first | rfl | simp)) | (simp [*]; done)), (by first | rfl | (simp; done) | (simp [*]; done)), H', ⟨by have := HJ14.out; have := HK2.out; omega⟩, by repeat (first | exact Drawn0.refl _ | apply Drawn0.step)⟩
                              · rw [if_neg c44] at H
                                exact absurd H (by simp)
                            · rw [if_neg c43] at H
                              have c43b0 : ((IntKind.u64.wrap (t133 + t134)) == 1) = false := beq_eq_false_iff_ne.mpr c43
                              have c43b1 : ((IntKind.u64.wrap (t133 + t134)) != 1) = true := bne_iff_ne.mpr c43
                              have H' := Aside0.mk H
                              clear H
                              go_wp2_with (first | ((with_reducible refine gate_callee (f := 21) rfl ?_); refine goesL_ (some 59) rfl rfl Try.func21 (by kernel_rfl) rfl #[.int .u64 (IntKind.u64.wrap (a1)), .int .i64 x12_2] rfl (by (try simp only [List.map_toArray, List.map_cons, List.map_nil]); first | done | rfl | (simp only [List.length_drop, List.length_take]; rfl)) ?_; (with_reducible refine (fettleref01_bit.calls (IntKind.u64.wrap (a1)) x12_2 t133 _ A20.out).mono ?_); rintro e w' ⟨rfl, ⟨nd, rfl⟩⟩; refine ⟨_, rfl, ?_⟩) | ((with_reducible refine gate_callee (f := 21) rfl ?_); refine goesL_ (some 62) rfl rfl Try.func21 (by kernel_rfl) rfl #[.int .u64 (IntKind.u64.wrap (a2)), .int .i64 x12_2] rfl (by (try simp only [List.map_toArray, List.map_cons, List.map_nil]); first | done | rfl | (simp only [List.length_drop, List.length_take]; rfl)) ?_; (with_reducible refine (fettleref01_bit.calls (IntKind.u64.wrap (a2)) x12_2 t134 _ A21.out).mono ?_); rintro e w' ⟨rfl, ⟨nd, rfl⟩⟩; refine ⟨_, rfl, ?_⟩))
                              go_roundg k2
                              case measure => have := HJ14.out; have := HK2.out; omega
                              case rel => exact ⟨(x10_2), (wrap64 (x12_2 + 1)), (by first | rfl | (simp; done) | (simp [*]; done)), (by first | rfl | (simp; done) | (simp [*]; done)), H', ⟨by have := HJ14.out; have := HK2.out; omega⟩, by repeat (first | exact Drawn0.refl _ | apply Drawn0.step)⟩
                          · rw [if_neg c42] at H
                            have c42b0 : (a0 == 8) = false := beq_eq_false_iff_ne.mpr c42
                            have c42b1 : (a0 != 8) = true := bne_iff_ne.mpr c42
                            have H' := Aside0.mk H
                            clear H
                            go_wp2_with (first | ((with_reducible refine gate_callee (f := 21) rfl ?_); refine goesL_ (some 59) rfl rfl Try.func21 (by kernel_rfl) rfl #[.int .u64 (IntKind.u64.wrap (a1)), .int .i64 x12_2] rfl (by (try simp only [List.map_toArray, List.map_cons, List.map_nil]); first | done | rfl | (simp only [List.length_drop, List.length_take]; rfl)) ?_; (with_reducible refine (fettleref01_bit.calls (IntKind.u64.wrap (a1)) x12_2 t133 _ A20.out).mono ?_); rintro e w' ⟨rfl, ⟨nd, rfl⟩⟩; refine ⟨_, rfl, ?_⟩) | ((with_reducible refine gate_callee (f := 21) rfl ?_); refine goesL_ (some 62) rfl rfl Try.func21 (by kernel_rfl) rfl #[.int .u64 (IntKind.u64.wrap (a2)), .int .i64 x12_2] rfl (by (try simp only [List.map_toArray, List.map_cons, List.map_nil]); first | done | rfl | (simp only [List.length_drop, List.length_take]; rfl)) ?_; (with_reducible refine (fettleref01_bit.calls (IntKind.u64.wrap (a2)) x12_2 t134 _ A21.out).mono ?_); rintro e w' ⟨rfl, ⟨nd, rfl⟩⟩; refine ⟨_, rfl, ?_⟩))
                            go_roundg k2
                            case measure => have := HJ14.out; have := HK2.out; omega
                            case rel => exact ⟨(x10_2), (wrap64 (x12_2 + 1)), (by first | rfl | (simp; done) | (simp [*]; done)), (by first | rfl | (simp; done) | (simp [*]; done)), H', ⟨by have := HJ14.out; have := HK2.out; omega⟩, by repeat (first | exact Drawn0.refl _ | apply Drawn0.step)⟩
                      · rw [if_neg c38] at H
                        have c38b0 : (a0 == 7) = false := beq_eq_false_iff_ne.mpr c38
                        have c38b1 : (a0 != 7) = true := bne_iff_ne.mpr c38
                        by_cases c46 : a0 = 8
                        · rw [if_pos c46] at H
                          have c46b0 : (a0 == 8) = true := beq_iff_eq.mpr c46
                          have c46b1 : (a0 != 8) = false := bne_eq_false_iff_eq.mpr c46
                          clear c46
                          by_cases c47 : (IntKind.u64.wrap (t133 + t134)) = 1
                          · rw [if_pos c47] at H
                            have c47b0 : ((IntKind.u64.wrap (t133 + t134)) == 1) = true := beq_iff_eq.mpr c47
                            have c47b1 : ((IntKind.u64.wrap (t133 + t134)) != 1) = false := bne_eq_false_iff_eq.mpr c47
                            clear c47
                            by_cases c48 : 0 ≤ x12_2
                            · rw [if_pos c48] at H
                              have c48b0 := eq_true c48
                              have c48b1 : decide (0 ≤ x12_2) = true := decide_eq_true c48
                              clear c48
                              obtain ⟨ji49, hji49⟩ : ∃ j_ : Int, (shl .u64 1 x12_2) = j_ := ⟨_, rfl⟩
                              replace H : (fettleref01_two.l1 k2 a0 (IntKind.u64.wrap (a1)) (IntKind.u64.wrap (a2)) (Go.bits .or .u64 x10_2 (ji49)) (wrap64 (x12_2 + 1))) = some (r1, r2) := by first | (rw [hji49] at H; exact H) | (simp only [hji49] at H ⊢; exact H)
                              (try rw [hji49] at A20)
                              (try rw [hji49] at A21)
                              have hji49_ : (IntKind.u64.wrap (1 * 2 ^ min x12_2.toNat 64)) = ji49 := hji49
                              have hji49z : x12_2 ≤ 64 → (IntKind.u64.wrap (1 * 2 ^ x12_2.toNat)) = ji49 := shl_small hji49
                              have hji49u : (IntKind.u64.wrap (2 ^ min x12_2.toNat 64)) = ji49 := by have h_ := hji49_; rw [Int.one_mul] at h_; exact h_
                              have hji49v : x12_2 ≤ 64 → (IntKind.u64.wrap (2 ^ x12_2.toNat)) = ji49 := fun hle_ => by have h_ := hji49z hle_; rw [Int.one_mul] at h_; exact h_
                              have H' := Aside0.mk H
                              clear H
                              go_wp2_with (first | ((with_reducible refine gate_callee (f := 21) rfl ?_); refine goesL_ (some 59) rfl rfl Try.func21 (by kernel_rfl) rfl #[.int .u64 (IntKind.u64.wrap (a1)), .int .i64 x12_2] rfl (by (try simp only [List.map_toArray, List.map_cons, List.map_nil]); first | done | rfl | (simp only [List.length_drop, List.length_take]; rfl)) ?_; (with_reducible refine (fettleref01_bit.calls (IntKind.u64.wrap (a1)) x12_2 t133 _ A20.out).mono ?_); rintro e w' ⟨rfl, ⟨nd, rfl⟩⟩; refine ⟨_, rfl, ?_⟩) | ((with_reducible refine gate_callee (f := 21) rfl ?_); refine goesL_ (some 62) rfl rfl Try.func21 (by kernel_rfl) rfl #[.int .u64 (IntKind.u64.wrap (a2)), .int .i64 x12_2] rfl (by (try simp only [List.map_toArray, List.map_cons, List.map_nil]); first | done | rfl | (simp only [List.length_drop, List.length_take]; rfl)) ?_; (with_reducible refine (fettleref01_bit.calls (IntKind.u64.wrap (a2)) x12_2 t134 _ A21.out).mono ?_); rintro e w' ⟨rfl, ⟨nd, rfl⟩⟩; refine ⟨_, rfl, ?_⟩))
                              go_roundg k2
                              case measure => have := HJ14.out; have := HK2.out; omega
                              case rel => exact ⟨(Go.bits .or .u64 x10_2 (ji49)), (wrap64 (x12_2 + 1)), (by first | rfl | (simp; done) | (rw [hji49v (by simp only [decide_eq_true_eq] at *; omega)]; done) | (simp only [← hji49] <;> (first | rfl | simp)) | (simp [*]; done)), (by first | rfl | (simp; done) | (simp [*]; done)), H', ⟨by have := HJ14.out; have := HK2.out; omega⟩, by repeat (first | exact Drawn0.refl _ | apply Drawn0.step)⟩
                            · rw [if_neg c48] at H
                              exact absurd H (by simp)
                          · rw [if_neg c47] at H
                            have c47b0 : ((IntKind.u64.wrap (t133 + t134)) == 1) = false := beq_eq_false_iff_ne.mpr c47
                            have c47b1 : ((IntKind.u64.wrap (t133 + t134)) != 1) = true := bne_iff_ne.mpr c47
                            have H' := Aside0.mk H
                            clear H
                            go_wp2_with (first | ((with_reducible refine gate_callee (f := 21) rfl ?_); refine goesL_ (some 59) rfl rfl Try.func21 (by kernel_rfl) rfl #[.int .u64 (IntKind.u64.wrap (a1)), .int .i64 x12_2] rfl (by (try simp only [List.map_toArray, List.map_cons, List.map_nil]); first | done | rfl | (simp only [List.length_drop, List.length_take]; rfl)) ?_; (with_reducible refine (fettleref01_bit.calls (IntKind.u64.wrap (a1)) x12_2 t133 _ A20.out).mono ?_); rintro e w' ⟨rfl, ⟨nd, rfl⟩⟩; refine ⟨_, rfl, ?_⟩) | ((with_reducible refine gate_callee (f := 21) rfl ?_); refine goesL_ (some 62) rfl rfl Try.func21 (by kernel_rfl) rfl #[.int .u64 (IntKind.u64.wrap (a2)), .int .i64 x12_2] rfl (by (try simp only [List.map_toArray, List.map_cons, List.map_nil]); first | done | rfl | (simp only [List.length_drop, List.length_take]; rfl)) ?_; (with_reducible refine (fettleref01_bit.calls (IntKind.u64.wrap (a2)) x12_2 t134 _ A21.out).mono ?_); rintro e w' ⟨rfl, ⟨nd, rfl⟩⟩; refine ⟨_, rfl, ?_⟩))
                            go_roundg k2
                            case measure => have := HJ14.out; have := HK2.out; omega
                            case rel => exact ⟨(x10_2), (wrap64 (x12_2 + 1)), (by first | rfl | (simp; done) | (simp [*]; done)), (by first | rfl | (simp; done) | (simp [*]; done)), H', ⟨by have := HJ14.out; have := HK2.out; omega⟩, by repeat (first | exact Drawn0.refl _ | apply Drawn0.step)⟩
                        · rw [if_neg c46] at H
                          have c46b0 : (a0 == 8) = false := beq_eq_false_iff_ne.mpr c46
                          have c46b1 : (a0 != 8) = true := bne_iff_ne.mpr c46
                          have H' := Aside0.mk H
                          clear H
                          go_wp2_with (first | ((with_reducible refine gate_callee (f := 21) rfl ?_); refine goesL_ (some 59) rfl rfl Try.func21 (by kernel_rfl) rfl #[.int .u64 (IntKind.u64.wrap (a1)), .int .i64 x12_2] rfl (by (try simp only [List.map_toArray, List.map_cons, List.map_nil]); first | done | rfl | (simp only [List.length_drop, List.length_take]; rfl)) ?_; (with_reducible refine (fettleref01_bit.calls (IntKind.u64.wrap (a1)) x12_2 t133 _ A20.out).mono ?_); rintro e w' ⟨rfl, ⟨nd, rfl⟩⟩; refine ⟨_, rfl, ?_⟩) | ((with_reducible refine gate_callee (f := 21) rfl ?_); refine goesL_ (some 62) rfl rfl Try.func21 (by kernel_rfl) rfl #[.int .u64 (IntKind.u64.wrap (a2)), .int .i64 x12_2] rfl (by (try simp only [List.map_toArray, List.map_cons, List.map_nil]); first | done | rfl | (simp only [List.length_drop, List.length_take]; rfl)) ?_; (with_reducible refine (fettleref01_bit.calls (IntKind.u64.wrap (a2)) x12_2 t134 _ A21.out).mono ?_); rintro e w' ⟨rfl, ⟨nd, rfl⟩⟩; refine ⟨_, rfl, ?_⟩))
                          go_roundg k2
                          case measure => have := HJ14.out; have := HK2.out; omega
                          case rel => exact ⟨(x10_2), (wrap64 (x12_2 + 1)), (by first | rfl | (simp; done) | (simp [*]; done)), (by first | rfl | (simp; done) | (simp [*]; done)), H', ⟨by have := HJ14.out; have := HK2.out; omega⟩, by repeat (first | exact Drawn0.refl _ | apply Drawn0.step)⟩
                  · rw [if_neg c19] at H
                    have c19b0 : decide (x12_2 < 64) = false := decide_eq_false c19
                    clear c19
                    simp only [Option.some.injEq, Prod.mk.injEq] at H
                    obtain ⟨rfl, rfl⟩ := H
                    go_wp2
                    go_ret2
                    exact ⟨by first | rfl | (simp; done) | (simp [*]; done) | (simp [show Go.RowKit.wrap64 0 = 0 by unfold Go.RowKit.wrap64; decide]; done), by repeat (first | exact Drawn0.refl _ | apply Drawn0.step)⟩
            · replace c18 := Bool.eq_false_iff.mpr c18
              subst c18
              have H1 : (if a0 = 9 then ((fettleref01_shift.f kj14 (IntKind.u64.wrap (a1)) (Int.tmod (IntKind.u64.wrap (a2)) 64) false).bind fun t135 => (some (wrap64 (t135), true))) else (if a0 = 10 then ((fettleref01_shift.f kj14 (IntKind.u64.wrap (a1)) (Int.tmod (IntKind.u64.wrap (a2)) 64) true).bind fun t136 => (some (wrap64 (t136), true))) else (if a0 = 12 then ((fettleref01_less.f kj14 a1 a2).bind fun t137 => (if t137 = true then (some (1, true)) else (some (wrap64 (0), true)))) else (if a0 = 13 then ((fettleref01_less.f kj14 a1 a2).bind fun t138 => (if t138 = true then (some (wrap64 (0), true)) else ((fettleref01_less.f kj14 a2 a1).bind fun t139 => (if t139 = true then (some (wrap64 (0), true)) else (some (1, true)))))) else (if a0 = 11 then (if a2 = 0 then (some (0, false)) else ((fettleref01_bit.f (IntKind.u64.wrap (a1)) 63).bind fun t140 => (if t140 = 1 then ((fettleref01_negative.f kj14 (IntKind.u64.wrap (a1))).bind fun t141 => (fettleref01_two.j3 kj14 (IntKind.u64.wrap (a1)) (IntKind.u64.wrap (a2)) t141 (IntKind.u64.wrap (a2)))) else (fettleref01_two.j3 kj14 (IntKind.u64.wrap (a1)) (IntKind.u64.wrap (a2)) (IntKind.u64.wrap (a1)) (IntKind.u64.wrap (a2)))))) else (some (wrap64 (0), true))))))) = some (r1, r2) := by rw [if_neg (show ¬ (false = true) by decide)] at H; exact H
              clear H
              have H := H1
              clear H1
              by_cases c50 : a0 = 9
              · rw [if_pos c50] at H
                have c50b0 : (a0 == 9) = true := beq_iff_eq.mpr c50
                have c50b1 : (a0 != 9) = false := bne_eq_false_iff_eq.mpr c50
                clear c50
                replace H := Option.bind_eq_some_iff.mp H
                obtain ⟨t135, A510, H⟩ := H
                replace H : (some (wrap64 (t135), true)) = some (r1, r2) := H
                have A51 := Aside0.mk A510
                clear A510
                simp only [Option.some.injEq, Prod.mk.injEq] at H
                obtain ⟨rfl, rfl⟩ := H
                go_wp2_with (first | ((with_reducible refine gate_callee (f := 22) rfl ?_); refine goesL_ (some 96) rfl rfl Try.func22 (by kernel_rfl) rfl #[.int .u64 (IntKind.u64.wrap (a1)), .int .u64 (Int.tmod (IntKind.u64.wrap (a2)) 64), .bool false] rfl (by (try simp only [List.map_toArray, List.map_cons, List.map_nil]); first | done | rfl | (simp only [List.length_drop, List.length_take]; rfl)) ?_; (with_reducible refine (fettleref01_shift.calls kj14 (IntKind.u64.wrap (a1)) (Int.tmod (IntKind.u64.wrap (a2)) 64) false t135 _ A51.out).mono ?_); rintro e w' ⟨rfl, ⟨nd, rfl⟩⟩; refine ⟨_, rfl, ?_⟩))
                go_ret2
                exact ⟨by first | rfl | (simp; done) | (simp [*]; done) | (simp [show Go.RowKit.wrap64 0 = 0 by unfold Go.RowKit.wrap64; decide]; done), by repeat (first | exact Drawn0.refl _ | apply Drawn0.step)⟩
              · rw [if_neg c50] at H
                have c50b0 : (a0 == 9) = false := beq_eq_false_iff_ne.mpr c50
                have c50b1 : (a0 != 9) = true := bne_iff_ne.mpr c50
                by_cases c52 : a0 = 10
                · rw [if_pos c52] at H
                  have c52b0 : (a0 == 10) = true := beq_iff_eq.mpr c52
                  have c52b1 : (a0 != 10) = false := bne_eq_false_iff_eq.mpr c52
                  clear c52
                  replace H := Option.bind_eq_some_iff.mp H
                  obtain ⟨t136, A530, H⟩ := H
                  replace H : (some (wrap64 (t136), true)) = some (r1, r2) := H
                  have A53 := Aside0.mk A530
                  clear A530
                  simp only [Option.some.injEq, Prod.mk.injEq] at H
                  obtain ⟨rfl, rfl⟩ := H
                  go_wp2_with (first | ((with_reducible refine gate_callee (f := 22) rfl ?_); refine goesL_ (some 102) rfl rfl Try.func22 (by kernel_rfl) rfl #[.int .u64 (IntKind.u64.wrap (a1)), .int .u64 (Int.tmod (IntKind.u64.wrap (a2)) 64), .bool true] rfl (by (try simp only [List.map_toArray, List.map_cons, List.map_nil]); first | done | rfl | (simp only [List.length_drop, List.length_take]; rfl)) ?_; (with_reducible refine (fettleref01_shift.calls kj14 (IntKind.u64.wrap (a1)) (Int.tmod (IntKind.u64.wrap (a2)) 64) true t136 _ A53.out).mono ?_); rintro e w' ⟨rfl, ⟨nd, rfl⟩⟩; refine ⟨_, rfl, ?_⟩))
                  go_ret2
                  exact ⟨by first | rfl | (simp; done) | (simp [*]; done) | (simp [show Go.RowKit.wrap64 0 = 0 by unfold Go.RowKit.wrap64; decide]; done), by repeat (first | exact Drawn0.refl _ | apply Drawn0.step)⟩
                · rw [if_neg c52] at H
                  have c52b0 : (a0 == 10) = false := beq_eq_false_iff_ne.mpr c52
                  have c52b1 : (a0 != 10) = true := bne_iff_ne.mpr c52
                  by_cases c54 : a0 = 12
                  · rw [if_pos c54] at H
                    have c54b0 : (a0 == 12) = true := beq_iff_eq.mpr c54
                    have c54b1 : (a0 != 12) = false := bne_eq_false_iff_eq.mpr c54
                    clear c54
                    replace H := Option.bind_eq_some_iff.mp H
                    obtain ⟨t137, A550, H⟩ := H
                    replace H : (if t137 = true then (some (1, true)) else (some (wrap64 (0), true))) = some (r1, r2) := H
                    have A55 := Aside0.mk A550
                    clear A550
                    by_cases c56 : t137 = true
                    · subst c56
                      have H1 : (some (1, true)) = some (r1, r2) := by rw [if_pos rfl] at H; exact H
                      clear H
                      have H := H1
                      clear H1
                      simp only [Option.some.injEq, Prod.mk.injEq] at H
                      obtain ⟨rfl, rfl⟩ := H
                      go_wp2_with (first | ((with_reducible refine gate_callee (f := 23) rfl ?_); refine goesL_ (some 107) rfl rfl Try.func23 (by kernel_rfl) rfl #[.int .i64 a1, .int .i64 a2] rfl (by (try simp only [List.map_toArray, List.map_cons, List.map_nil]); first | done | rfl | (simp only [List.length_drop, List.length_take]; rfl)) ?_; (with_reducible refine (fettleref01_less.calls kj14 a1 a2 true _ A55.out).mono ?_); rintro e w' ⟨rfl, ⟨nd, rfl⟩⟩; refine ⟨_, rfl, ?_⟩))
                      go_ret2
                      exact ⟨by first | rfl | (simp; done) | (simp [*]; done) | (simp [show Go.RowKit.wrap64 0 = 0 by unfold Go.RowKit.wrap64; decide]; done), by repeat (first | exact Drawn0.refl _ | apply Drawn0.step)⟩
                    · replace c56 := Bool.eq_false_iff.mpr c56
                      subst c56
                      have H1 : (some (wrap64 (0), true)) = some (r1, r2) := by rw [if_neg (show ¬ (false = true) by decide)] at H; exact H
                      clear H
                      have H := H1
                      clear H1
                      simp only [Option.some.injEq, Prod.mk.injEq] at H
                      obtain ⟨rfl, rfl⟩ := H
                      go_wp2_with (first | ((with_reducible refine gate_callee (f := 23) rfl ?_); refine goesL_ (some 107) rfl rfl Try.func23 (by kernel_rfl) rfl #[.int .i64 a1, .int .i64 a2] rfl (by (try simp only [List.map_toArray, List.map_cons, List.map_nil]); first | done | rfl | (simp only [List.length_drop, List.length_take]; rfl)) ?_; (with_reducible refine (fettleref01_less.calls kj14 a1 a2 false _ A55.out).mono ?_); rintro e w' ⟨rfl, ⟨nd, rfl⟩⟩; refine ⟨_, rfl, ?_⟩))
                      go_ret2
                      exact ⟨by first | rfl | (simp; done) | (simp [*]; done) | (simp [show Go.RowKit.wrap64 0 = 0 by unfold Go.RowKit.wrap64; decide]; done), by repeat (first | exact Drawn0.refl _ | apply Drawn0.step)⟩
                  · rw [if_neg c54] at H
                    have c54b0 : (a0 == 12) = false := beq_eq_false_iff_ne.mpr c54
                    have c54b1 : (a0 != 12) = true := bne_iff_ne.mpr c54
                    by_cases c57 : a0 = 13
                    · rw [if_pos c57] at H
                      have c57b0 : (a0 == 13) = true := beq_iff_eq.mpr c57
                      have c57b1 : (a0 != 13) = false := bne_eq_false_iff_eq.mpr c57
                      clear c57
                      replace H := Option.bind_eq_some_iff.mp H
                      obtain ⟨t138, A580, H⟩ := H
                      replace H : (if t138 = true then (some (wrap64 (0), true)) else ((fettleref01_less.f kj14 a2 a1).bind fun t139 => (if t139 = true then (some (wrap64 (0), true)) else (some (1, true))))) = some (r1, r2) := H
                      have A58 := Aside0.mk A580
                      clear A580
                      by_cases c59 : t138 = true
                      · subst c59
                        have H1 : (some (wrap64 (0), true)) = some (r1, r2) := by rw [if_pos rfl] at H; exact H
                        clear H
                        have H := H1
                        clear H1
                        simp only [Option.some.injEq, Prod.mk.injEq] at H
                        obtain ⟨rfl, rfl⟩ := H
                        go_wp2_with (first | ((with_reducible refine gate_callee (f := 23) rfl ?_); refine goesL_ (some 113) rfl rfl Try.func23 (by kernel_rfl) rfl #[.int .i64 a1, .int .i64 a2] rfl (by (try simp only [List.map_toArray, List.map_cons, List.map_nil]); first | done | rfl | (simp only [List.length_drop, List.length_take]; rfl)) ?_; (with_reducible refine (fettleref01_less.calls kj14 a1 a2 true _ A58.out).mono ?_); rintro e w' ⟨rfl, ⟨nd, rfl⟩⟩; refine ⟨_, rfl, ?_⟩))
                        go_ret2
                        exact ⟨by first | rfl | (simp; done) | (simp [*]; done) | (simp [show Go.RowKit.wrap64 0 = 0 by unfold Go.RowKit.wrap64; decide]; done), by repeat (first | exact Drawn0.refl _ | apply Drawn0.step)⟩
                      · replace c59 := Bool.eq_false_iff.mpr c59
                        subst c59
                        have H1 : ((fettleref01_less.f kj14 a2 a1).bind fun t139 => (if t139 = true then (some (wrap64 (0), true)) else (some (1, true)))) = some (r1, r2) := by rw [if_neg (show ¬ (false = true) by decide)] at H; exact H
                        clear H
                        have H := H1
                        clear H1
                        replace H := Option.bind_eq_some_iff.mp H
                        obtain ⟨t139, A600, H⟩ := H
                        replace H : (if t139 = true then (some (wrap64 (0), true)) else (some (1, true))) = some (r1, r2) := H
                        have A60 := Aside0.mk A600
                        clear A600
                        by_cases c61 : t139 = true
                        · subst c61
                          have H1 : (some (wrap64 (0), true)) = some (r1, r2) := by rw [if_pos rfl] at H; exact H
                          clear H
                          have H := H1
                          clear H1
                          simp only [Option.some.injEq, Prod.mk.injEq] at H
                          obtain ⟨rfl, rfl⟩ := H
                          go_wp2_with (first | ((with_reducible refine gate_callee (f := 23) rfl ?_); refine goesL_ (some 113) rfl rfl Try.func23 (by kernel_rfl) rfl #[.int .i64 a1, .int .i64 a2] rfl (by (try simp only [List.map_toArray, List.map_cons, List.map_nil]); first | done | rfl | (simp only [List.length_drop, List.length_take]; rfl)) ?_; (with_reducible refine (fettleref01_less.calls kj14 a1 a2 false _ A58.out).mono ?_); rintro e w' ⟨rfl, ⟨nd, rfl⟩⟩; refine ⟨_, rfl, ?_⟩) | (go_at_call 23; (with_reducible refine (fettleref01_less.calls kj14 a2 a1 true _ A60.out).mono ?_); rintro e w' ⟨rfl, ⟨nd, rfl⟩⟩))
                          go_ret2
                          exact ⟨by first | rfl | (simp; done) | (simp [*]; done) | (simp [show Go.RowKit.wrap64 0 = 0 by unfold Go.RowKit.wrap64; decide]; done), by repeat (first | exact Drawn0.refl _ | apply Drawn0.step)⟩
                        · replace c61 := Bool.eq_false_iff.mpr c61
                          subst c61
                          have H1 : (some (1, true)) = some (r1, r2) := by rw [if_neg (show ¬ (false = true) by decide)] at H; exact H
                          clear H
                          have H := H1
                          clear H1
                          simp only [Option.some.injEq, Prod.mk.injEq] at H
                          obtain ⟨rfl, rfl⟩ := H
                          go_wp2_with (first | ((with_reducible refine gate_callee (f := 23) rfl ?_); refine goesL_ (some 113) rfl rfl Try.func23 (by kernel_rfl) rfl #[.int .i64 a1, .int .i64 a2] rfl (by (try simp only [List.map_toArray, List.map_cons, List.map_nil]); first | done | rfl | (simp only [List.length_drop, List.length_take]; rfl)) ?_; (with_reducible refine (fettleref01_less.calls kj14 a1 a2 false _ A58.out).mono ?_); rintro e w' ⟨rfl, ⟨nd, rfl⟩⟩; refine ⟨_, rfl, ?_⟩) | (go_at_call 23; (with_reducible refine (fettleref01_less.calls kj14 a2 a1 false _ A60.out).mono ?_); rintro e w' ⟨rfl, ⟨nd, rfl⟩⟩))
                          go_ret2
                          exact ⟨by first | rfl | (simp; done) | (simp [*]; done) | (simp [show Go.RowKit.wrap64 0 = 0 by unfold Go.RowKit.wrap64; decide]; done), by repeat (first | exact Drawn0.refl _ | apply Drawn0.step)⟩
                    · rw [if_neg c57] at H
                      have c57b0 : (a0 == 13) = false := beq_eq_false_iff_ne.mpr c57
                      have c57b1 : (a0 != 13) = true := bne_iff_ne.mpr c57
                      by_cases c62 : a0 = 11
                      · rw [if_pos c62] at H
                        have c62b0 : (a0 == 11) = true := beq_iff_eq.mpr c62
                        have c62b1 : (a0 != 11) = false := bne_eq_false_iff_eq.mpr c62
                        clear c62
                        by_cases c63 : a2 = 0
                        · rw [if_pos c63] at H
                          have c63b0 : (a2 == 0) = true := beq_iff_eq.mpr c63
                          have c63b1 : (a2 != 0) = false := bne_eq_false_iff_eq.mpr c63
                          clear c63
                          simp only [Option.some.injEq, Prod.mk.injEq] at H
                          obtain ⟨rfl, rfl⟩ := H
                          go_wp2
                          go_ret2
                          exact ⟨by first | rfl | (simp; done) | (simp [*]; done) | (simp [show Go.RowKit.wrap64 0 = 0 by unfold Go.RowKit.wrap64; decide]; done), by repeat (first | exact Drawn0.refl _ | apply Drawn0.step)⟩
                        · rw [if_neg c63] at H
                          have c63b0 : (a2 == 0) = false := beq_eq_false_iff_ne.mpr c63
                          have c63b1 : (a2 != 0) = true := bne_iff_ne.mpr c63
                          replace H := Option.bind_eq_some_iff.mp H
                          obtain ⟨t140, A640, H⟩ := H
                          replace H : (if t140 = 1 then ((fettleref01_negative.f kj14 (IntKind.u64.wrap (a1))).bind fun t141 => (fettleref01_two.j3 kj14 (IntKind.u64.wrap (a1)) (IntKind.u64.wrap (a2)) t141 (IntKind.u64.wrap (a2)))) else (fettleref01_two.j3 kj14 (IntKind.u64.wrap (a1)) (IntKind.u64.wrap (a2)) (IntKind.u64.wrap (a1)) (IntKind.u64.wrap (a2)))) = some (r1, r2) := H
                          have A64 := Aside0.mk A640
                          clear A640
                          have HC65 := Aside0.mk H
                          clear H
                          go_upto_if 129 with (first | ((with_reducible refine gate_callee (f := 21) rfl ?_); refine goesL_ (some 128) rfl rfl Try.func21 (by kernel_rfl) rfl #[.int .u64 (IntKind.u64.wrap (a1)), .int .i64 63] rfl (by (try simp only [List.map_toArray, List.map_cons, List.map_nil]); first | done | rfl | (simp only [List.length_drop, List.length_take]; rfl)) ?_; (with_reducible refine (fettleref01_bit.calls (IntKind.u64.wrap (a1)) 63 t140 _ A64.out).mono ?_); rintro e w' ⟨rfl, ⟨nd, rfl⟩⟩; refine ⟨_, rfl, ?_⟩))
                          (try simp only [Act.put, List.setIfInBounds_toArray, List.set_cons_zero, List.set_cons_succ])
                          go_cut [16] (fun v16 wc => ∃ (kq : Nat) (x16_64 : Int), v16 = .int .u64 x16_64 ∧ Aside0 (fettleref01_two.j3 kq (IntKind.u64.wrap (a1)) (IntKind.u64.wrap (a2)) x16_64 (IntKind.u64.wrap (a2)) = some (r1, r2)) ∧ Aside0 (kq ≤ kj14) ∧ Drawn0 w wc)
                          case first =>
                            have H := HC65.out
                            clear HC65
                            by_cases c66 : t140 = 1
                            · rw [if_pos c66] at H
                              have c66b0 : (t140 == 1) = true := beq_iff_eq.mpr c66
                              have c66b1 : (t140 != 1) = false := bne_eq_false_iff_eq.mpr c66
                              clear c66
                              (first | rw [c66b0] | (simp only [i64_w, i32_w]; rw [c66b0]) | skip)
                              replace H := Option.bind_eq_some_iff.mp H
                              obtain ⟨t141, A670, H⟩ := H
                              replace H : (fettleref01_two.j3 kj14 (IntKind.u64.wrap (a1)) (IntKind.u64.wrap (a2)) t141 (IntKind.u64.wrap (a2))) = some (r1, r2) := H
                              have A67 := Aside0.mk A670
                              clear A670
                              have H' := Aside0.mk H
                              clear H
                              go_wp2_with (first | ((with_reducible refine gate_callee (f := 24) rfl ?_); refine goesL_ (some 131) rfl rfl Try.func24 (by kernel_rfl) rfl #[.int .u64 (IntKind.u64.wrap (a1))] rfl (by (try simp only [List.map_toArray, List.map_cons, List.map_nil]); first | done | rfl | (simp only [List.length_drop, List.length_take]; rfl)) ?_; (with_reducible refine (fettleref01_negative.calls kj14 (IntKind.u64.wrap (a1)) t141 _ A67.out).mono ?_); rintro e w' ⟨rfl, ⟨nd, rfl⟩⟩; refine ⟨_, rfl, ?_⟩))
                              go_meet
                              case rel => exact ⟨_, (t141), (by first | rfl | (simp; done) | (simp [*]; done)), H', ⟨by have := HJ14.out; first | omega | exact Nat.le_refl _⟩, by repeat (first | exact Drawn0.refl _ | apply Drawn0.step)⟩
                            · rw [if_neg c66] at H
                              have c66b0 : (t140 == 1) = false := beq_eq_false_iff_ne.mpr c66
                              have c66b1 : (t140 != 1) = true := bne_iff_ne.mpr c66
                              (first | rw [c66b0] | (simp only [i64_w, i32_w]; rw [c66b0]) | skip)
                              have H' := Aside0.mk H
                              clear H
                              go_wp2
                              go_meet
                              case rel => exact ⟨_, ((IntKind.u64.wrap (a1))), (by first | rfl | (simp; done) | (simp [*]; done)), H', ⟨by have := HJ14.out; first | omega | exact Nat.le_refl _⟩, by repeat (first | exact Drawn0.refl _ | apply Drawn0.step)⟩
                          case rest =>
                            clear HC65
                            try clear c1
                            try clear c2
                            try clear p2
                            try clear c3
                            try clear c4
                            try clear c4b0
                            try clear c4b1
                            try clear c5
                            try clear c6
                            try clear c6b0
                            try clear c6b1
                            try clear p6
                            try clear c8
                            try clear c8b0
                            try clear c8b1
                            try clear c9
                            try clear c9b0
                            try clear c11
                            try clear c11b0
                            try clear c11b1
                            try clear c12
                            try clear c12b0
                            try clear c12b1
                            try clear c14
                            try clear c16
                            try clear c16b0
                            try clear c16b1
                            try clear c17
                            try clear c17b0
                            try clear c17b1
                            try clear c18
                            try clear c19
                            try clear c19b0
                            try clear c21
                            try clear c22
                            try clear c22b0
                            try clear c22b1
                            try clear c23
                            try clear c23b0
                            try clear c23b1
                            try clear c24
                            try clear c24b0
                            try clear c24b1
                            try clear c26
                            try clear c26b0
                            try clear c26b1
                            try clear c27
                            try clear c27b0
                            try clear c28
                            try clear c28b0
                            try clear c28b1
                            try clear c30
                            try clear c30b0
                            try clear c30b1
                            try clear c31
                            try clear c31b0
                            try clear c31b1
                            try clear c32
                            try clear c32b0
                            try clear c32b1
                            try clear c34
                            try clear c34b0
                            try clear c34b1
                            try clear c35
                            try clear c35b0
                            try clear c35b1
                            try clear c36
                            try clear c36b0
                            try clear c36b1
                            try clear c38
                            try clear c38b0
                            try clear c38b1
                            try clear c39
                            try clear c39b0
                            try clear c40
                            try clear c40b0
                            try clear c40b1
                            try clear c42
                            try clear c42b0
                            try clear c42b1
                            try clear c43
                            try clear c43b0
                            try clear c43b1
                            try clear c44
                            try clear c44b0
                            try clear c44b1
                            try clear c46
                            try clear c46b0
                            try clear c46b1
                            try clear c47
                            try clear c47b0
                            try clear c47b1
                            try clear c48
                            try clear c48b0
                            try clear c48b1
                            try clear c50
                            try clear c50b0
                            try clear c50b1
                            try clear c52
                            try clear c52b0
                            try clear c52b1
                            try clear c54
                            try clear c54b0
                            try clear c54b1
                            try clear c56
                            try clear c57
                            try clear c57b0
                            try clear c57b1
                            try clear c59
                            try clear c61
                            try clear c62
                            try clear c62b0
                            try clear c62b1
                            try clear c63
                            try clear c63b0
                            try clear c63b1
                            try clear p64
                            try clear c66
                            try clear c66b0
                            try clear c66b1
                            try clear p2
                            try clear p6
                            obtain ⟨kq, x16_64, rfl, HA, HJ64, ⟨mc64, rfl⟩⟩ := hcut
                            cases kq with
                            | zero => exact absurd HA.out (by simp [fettleref01_two.j3])
                            | succ kj64 =>
                              have H := HA.out
                              clear HA
                              simp only [fettleref01_two.j3] at H
                              replace H := Option.bind_eq_some_iff.mp H
                              obtain ⟨t142, A680, H⟩ := H
                              replace H : (if t142 = 1 then ((fettleref01_negative.f kj64 (IntKind.u64.wrap (a2))).bind fun t143 => (fettleref01_two.j4 kj64 (IntKind.u64.wrap (a1)) (IntKind.u64.wrap (a2)) x16_64 t143)) else (fettleref01_two.j4 kj64 (IntKind.u64.wrap (a1)) (IntKind.u64.wrap (a2)) x16_64 (IntKind.u64.wrap (a2)))) = some (r1, r2) := H
                              have A68 := Aside0.mk A680
                              clear A680
                              have HC69 := Aside0.mk H
                              clear H
                              go_upto_if 134 with (first | ((with_reducible refine gate_callee (f := 21) rfl ?_); refine goesL_ (some 133) rfl rfl Try.func21 (by kernel_rfl) rfl #[.int .u64 (IntKind.u64.wrap (a2)), .int .i64 63] rfl (by (try simp only [List.map_toArray, List.map_cons, List.map_nil]); first | done | rfl | (simp only [List.length_drop, List.length_take]; rfl)) ?_; (with_reducible refine (fettleref01_bit.calls (IntKind.u64.wrap (a2)) 63 t142 _ A68.out).mono ?_); rintro e w' ⟨rfl, ⟨nd, rfl⟩⟩; refine ⟨_, rfl, ?_⟩))
                              (try simp only [Act.put, List.setIfInBounds_toArray, List.set_cons_zero, List.set_cons_succ])
                              go_cut [17] (fun v17 wc => ∃ (kq : Nat) (x17_68 : Int), v17 = .int .u64 x17_68 ∧ Aside0 (fettleref01_two.j4 kq (IntKind.u64.wrap (a1)) (IntKind.u64.wrap (a2)) x16_64 x17_68 = some (r1, r2)) ∧ Aside0 (kq ≤ kj64) ∧ Drawn0 w wc)
                              case first =>
                                have H := HC69.out
                                clear HC69
                                by_cases c70 : t142 = 1
                                · rw [if_pos c70] at H
                                  have c70b0 : (t142 == 1) = true := beq_iff_eq.mpr c70
                                  have c70b1 : (t142 != 1) = false := bne_eq_false_iff_eq.mpr c70
                                  clear c70
                                  (first | rw [c70b0] | (simp only [i64_w, i32_w]; rw [c70b0]) | skip)
                                  replace H := Option.bind_eq_some_iff.mp H
                                  obtain ⟨t143, A710, H⟩ := H
                                  replace H : (fettleref01_two.j4 kj64 (IntKind.u64.wrap (a1)) (IntKind.u64.wrap (a2)) x16_64 t143) = some (r1, r2) := H
                                  have A71 := Aside0.mk A710
                                  clear A710
                                  have H' := Aside0.mk H
                                  clear H
                                  go_wp2_with (first | ((with_reducible refine gate_callee (f := 24) rfl ?_); refine goesL_ (some 136) rfl rfl Try.func24 (by kernel_rfl) rfl #[.int .u64 (IntKind.u64.wrap (a2))] rfl (by (try simp only [List.map_toArray, List.map_cons, List.map_nil]); first | done | rfl | (simp only [List.length_drop, List.length_take]; rfl)) ?_; (with_reducible refine (fettleref01_negative.calls kj64 (IntKind.u64.wrap (a2)) t143 _ A71.out).mono ?_); rintro e w' ⟨rfl, ⟨nd, rfl⟩⟩; refine ⟨_, rfl, ?_⟩))
                                  go_meet
                                  case rel => exact ⟨_, (t143), (by first | rfl | (simp; done) | (simp [*]; done)), H', ⟨by have := HJ14.out; have := HJ64.out; first | omega | exact Nat.le_refl _⟩, by repeat (first | exact Drawn0.refl _ | apply Drawn0.step)⟩
                                · rw [if_neg c70] at H
                                  have c70b0 : (t142 == 1) = false := beq_eq_false_iff_ne.mpr c70
                                  have c70b1 : (t142 != 1) = true := bne_iff_ne.mpr c70
                                  (first | rw [c70b0] | (simp only [i64_w, i32_w]; rw [c70b0]) | skip)
                                  have H' := Aside0.mk H
                                  clear H
                                  go_wp2
                                  go_meet
                                  case rel => exact ⟨_, ((IntKind.u64.wrap (a2))), (by first | rfl | (simp; done) | (simp [*]; done)), H', ⟨by have := HJ14.out; have := HJ64.out; first | omega | exact Nat.le_refl _⟩, by repeat (first | exact Drawn0.refl _ | apply Drawn0.step)⟩
                              case rest =>
                                clear HC69
                                try clear c1
                                try clear c2
                                try clear p2
                                try clear c3
                                try clear c4
                                try clear c4b0
                                try clear c4b1
                                try clear c5
                                try clear c6
                                try clear c6b0
                                try clear c6b1
                                try clear p6
                                try clear c7
                                try clear c8
                                try clear c8b0
                                try clear c8b1
                                try clear c9
                                try clear c9b0
                                try clear c11
                                try clear c11b0
                                try clear c11b1
                                try clear c12
                                try clear c12b0
                                try clear c12b1
                                try clear c14
                                try clear c16
                                try clear c16b0
                                try clear c16b1
                                try clear c17
                                try clear c17b0
                                try clear c17b1
                                try clear c18
                                try clear c19
                                try clear c19b0
                                try clear c21
                                try clear c22
                                try clear c22b0
                                try clear c22b1
                                try clear c23
                                try clear c23b0
                                try clear c23b1
                                try clear c24
                                try clear c24b0
                                try clear c24b1
                                try clear c26
                                try clear c26b0
                                try clear c26b1
                                try clear c27
                                try clear c27b0
                                try clear c28
                                try clear c28b0
                                try clear c28b1
                                try clear c30
                                try clear c30b0
                                try clear c30b1
                                try clear c31
                                try clear c31b0
                                try clear c31b1
                                try clear c32
                                try clear c32b0
                                try clear c32b1
                                try clear c34
                                try clear c34b0
                                try clear c34b1
                                try clear c35
                                try clear c35b0
                                try clear c35b1
                                try clear c36
                                try clear c36b0
                                try clear c36b1
                                try clear c38
                                try clear c38b0
                                try clear c38b1
                                try clear c39
                                try clear c39b0
                                try clear c40
                                try clear c40b0
                                try clear c40b1
                                try clear c42
                                try clear c42b0
                                try clear c42b1
                                try clear c43
                                try clear c43b0
                                try clear c43b1
                                try clear c44
                                try clear c44b0
                                try clear c44b1
                                try clear c46
                                try clear c46b0
                                try clear c46b1
                                try clear c47
                                try clear c47b0
                                try clear c47b1
                                try clear c48
                                try clear c48b0
                                try clear c48b1
                                try clear c50
                                try clear c50b0
                                try clear c50b1
                                try clear c52
                                try clear c52b0
                                try clear c52b1
                                try clear c54
                                try clear c54b0
                                try clear c54b1
                                try clear c56
                                try clear c57
                                try clear c57b0
                                try clear c57b1
                                try clear c59
                                try clear c61
                                try clear c62
                                try clear c62b0
                                try clear c62b1
                                try clear c63
                                try clear c63b0
                                try clear c63b1
                                try clear c64
                                try clear p64
                                try clear c66
                                try clear c66b0
                                try clear c66b1
                                try clear c70
                                try clear c70b0
                                try clear c70b1
                                try clear p2
                                try clear p6
                                try clear p64
                                obtain ⟨kq, x17_68, rfl, HA, HJ68, ⟨mc68, rfl⟩⟩ := hcut
                                cases kq with
                                | zero => exact absurd HA.out (by simp [fettleref01_two.j4])
                                | succ kj68 =>
                                  have H := HA.out
                                  clear HA
                                  simp only [fettleref01_two.j4] at H
                                  replace H := Option.bind_eq_some_iff.mp H
                                  obtain ⟨t144, A720, H⟩ := H
                                  replace H : ((fettleref01_bit.f (IntKind.u64.wrap (a1)) 63).bind fun t145 => ((fettleref01_bit.f (IntKind.u64.wrap (a2)) 63).bind fun t146 => (if t145 = t146 then (some (wrap64 (t144), true)) else ((fettleref01_negative.f kj68 t144).bind fun t147 => (some (wrap64 (t147), true)))))) = some (r1, r2) := H
                                  have A72 := Aside0.mk A720
                                  clear A720
                                  replace H := Option.bind_eq_some_iff.mp H
                                  obtain ⟨t145, A730, H⟩ := H
                                  replace H : ((fettleref01_bit.f (IntKind.u64.wrap (a2)) 63).bind fun t146 => (if t145 = t146 then (some (wrap64 (t144), true)) else ((fettleref01_negative.f kj68 t144).bind fun t147 => (some (wrap64 (t147), true))))) = some (r1, r2) := H
                                  have A73 := Aside0.mk A730
                                  clear A730
                                  replace H := Option.bind_eq_some_iff.mp H
                                  obtain ⟨t146, A740, H⟩ := H
                                  replace H : (if t145 = t146 then (some (wrap64 (t144), true)) else ((fettleref01_negative.f kj68 t144).bind fun t147 => (some (wrap64 (t147), true)))) = some (r1, r2) := H
                                  have A74 := Aside0.mk A740
                                  clear A740
                                  by_cases c75 : t145 = t146
                                  · rw [if_pos c75] at H
                                    have c75b0 : (t145 == t146) = true := beq_iff_eq.mpr c75
                                    have c75b1 : (t145 != t146) = false := bne_eq_false_iff_eq.mpr c75
                                    clear c75
                                    simp only [Option.some.injEq, Prod.mk.injEq] at H
                                    obtain ⟨rfl, rfl⟩ := H
                                    go_wp2_with (first | ((with_reducible refine gate_callee (f := 25) rfl ?_); refine goesL_ (some 139) rfl rfl Try.func25 (by kernel_rfl) rfl #[.int .u64 x16_64, .int .u64 x17_68] rfl (by (try simp only [List.map_toArray, List.map_cons, List.map_nil]); first | done | rfl | (simp only [List.length_drop, List.length_take]; rfl)) ?_; (with_reducible refine (fettleref01_divide.calls kj68 x16_64 x17_68 t144 _ A72.out).mono ?_); rintro e w' ⟨rfl, ⟨nd, rfl⟩⟩; refine ⟨_, rfl, ?_⟩) | ((with_reducible refine gate_callee (f := 21) rfl ?_); refine goesL_ (some 141) rfl rfl Try.func21 (by kernel_rfl) rfl #[.int .u64 (IntKind.u64.wrap (a1)), .int .i64 63] rfl (by (try simp only [List.map_toArray, List.map_cons, List.map_nil]); first | done | rfl | (simp only [List.length_drop, List.length_take]; rfl)) ?_; (with_reducible refine (fettleref01_bit.calls (IntKind.u64.wrap (a1)) 63 t145 _ A73.out).mono ?_); rintro e w' ⟨rfl, ⟨nd, rfl⟩⟩; refine ⟨_, rfl, ?_⟩) | ((with_reducible refine gate_callee (f := 21) rfl ?_); refine goesL_ (some 143) rfl rfl Try.func21 (by kernel_rfl) rfl #[.int .u64 (IntKind.u64.wrap (a2)), .int .i64 63] rfl (by (try simp only [List.map_toArray, List.map_cons, List.map_nil]); first | done | rfl | (simp only [List.length_drop, List.length_take]; rfl)) ?_; (with_reducible refine (fettleref01_bit.calls (IntKind.u64.wrap (a2)) 63 t146 _ A74.out).mono ?_); rintro e w' ⟨rfl, ⟨nd, rfl⟩⟩; refine ⟨_, rfl, ?_⟩))
                                    go_ret2
                                    exact ⟨by first | rfl | (simp; done) | (simp [*]; done) | (simp [show Go.RowKit.wrap64 0 = 0 by unfold Go.RowKit.wrap64; decide]; done), by repeat (first | exact Drawn0.refl _ | apply Drawn0.step)⟩
                                  · rw [if_neg c75] at H
                                    have c75b0 : (t145 == t146) = false := beq_eq_false_iff_ne.mpr c75
                                    have c75b1 : (t145 != t146) = true := bne_iff_ne.mpr c75
                                    replace H := Option.bind_eq_some_iff.mp H
                                    obtain ⟨t147, A760, H⟩ := H
                                    replace H : (some (wrap64 (t147), true)) = some (r1, r2) := H
                                    have A76 := Aside0.mk A760
                                    clear A760
                                    simp only [Option.some.injEq, Prod.mk.injEq] at H
                                    obtain ⟨rfl, rfl⟩ := H
                                    go_wp2_with (first | ((with_reducible refine gate_callee (f := 25) rfl ?_); refine goesL_ (some 139) rfl rfl Try.func25 (by kernel_rfl) rfl #[.int .u64 x16_64, .int .u64 x17_68] rfl (by (try simp only [List.map_toArray, List.map_cons, List.map_nil]); first | done | rfl | (simp only [List.length_drop, List.length_take]; rfl)) ?_; (with_reducible refine (fettleref01_divide.calls kj68 x16_64 x17_68 t144 _ A72.out).mono ?_); rintro e w' ⟨rfl, ⟨nd, rfl⟩⟩; refine ⟨_, rfl, ?_⟩) | ((with_reducible refine gate_callee (f := 21) rfl ?_); refine goesL_ (some 141) rfl rfl Try.func21 (by kernel_rfl) rfl #[.int .u64 (IntKind.u64.wrap (a1)), .int .i64 63] rfl (by (try simp only [List.map_toArray, List.map_cons, List.map_nil]); first | done | rfl | (simp only [List.length_drop, List.length_take]; rfl)) ?_; (with_reducible refine (fettleref01_bit.calls (IntKind.u64.wrap (a1)) 63 t145 _ A73.out).mono ?_); rintro e w' ⟨rfl, ⟨nd, rfl⟩⟩; refine ⟨_, rfl, ?_⟩) | ((with_reducible refine gate_callee (f := 21) rfl ?_); refine goesL_ (some 143) rfl rfl Try.func21 (by kernel_rfl) rfl #[.int .u64 (IntKind.u64.wrap (a2)), .int .i64 63] rfl (by (try simp only [List.map_toArray, List.map_cons, List.map_nil]); first | done | rfl | (simp only [List.length_drop, List.length_take]; rfl)) ?_; (with_reducible refine (fettleref01_bit.calls (IntKind.u64.wrap (a2)) 63 t146 _ A74.out).mono ?_); rintro e w' ⟨rfl, ⟨nd, rfl⟩⟩; refine ⟨_, rfl, ?_⟩) | ((with_reducible refine gate_callee (f := 24) rfl ?_); refine goesL_ (some 146) rfl rfl Try.func24 (by kernel_rfl) rfl #[.int .u64 t144] rfl (by (try simp only [List.map_toArray, List.map_cons, List.map_nil]); first | done | rfl | (simp only [List.length_drop, List.length_take]; rfl)) ?_; (with_reducible refine (fettleref01_negative.calls kj68 t144 t147 _ A76.out).mono ?_); rintro e w' ⟨rfl, ⟨nd, rfl⟩⟩; refine ⟨_, rfl, ?_⟩))
                                    go_ret2
                                    exact ⟨by first | rfl | (simp; done) | (simp [*]; done) | (simp [show Go.RowKit.wrap64 0 = 0 by unfold Go.RowKit.wrap64; decide]; done), by repeat (first | exact Drawn0.refl _ | apply Drawn0.step)⟩
                      · rw [if_neg c62] at H
                        have c62b0 : (a0 == 11) = false := beq_eq_false_iff_ne.mpr c62
                        have c62b1 : (a0 != 11) = true := bne_iff_ne.mpr c62
                        simp only [Option.some.injEq, Prod.mk.injEq] at H
                        obtain ⟨rfl, rfl⟩ := H
                        go_wp2
                        go_ret2
                        exact ⟨by first | rfl | (simp; done) | (simp [*]; done) | (simp [show Go.RowKit.wrap64 0 = 0 by unfold Go.RowKit.wrap64; decide]; done), by repeat (first | exact Drawn0.refl _ | apply Drawn0.step)⟩

end Go.Proofs.Ytenlbbookiopiaa.PArithEvals
