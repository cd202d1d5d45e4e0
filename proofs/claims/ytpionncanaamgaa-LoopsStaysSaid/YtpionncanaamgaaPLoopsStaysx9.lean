-- Laid by a program of this session (wip/pp/patch.py over the kit's print).
-- mended yes
-- mended: lengths
import Derived.Test.YtpionncanaamgaaUp
import Derived.Test.YtpionncanaamgaaPLoopsStaysx0
import Derived.Test.YtpionncanaamgaaPLoopsStaysx6
import Derived.Test.YtpionncanaamgaaPLoopsStaysx7
import Derived.Test.YtpionncanaamgaaPLoopsStaysx8
import Derived.Test.YtpionncanaamgaaShort
namespace Go.Proofs.Ytpionncanaamgaa.PLoopsStays
open Go.Proofs.Ytpionncanaamgaa.Up Go.Proofs.Ytpionncanaamgaa.Short Go.RowKit Go.Proofs.YtpionncanaamgaaW.PrintWords Go.Proofs.YtpionncanaamgaaW.PrintLast Go.Proofs.YtpionncanaamgaaW.PrintMore Go.Proofs.YtpionncanaamgaaW.PrintWords.Kd
attribute [local go_sem] max2_int min2_int max_two min_two max_three min_three max_four min_four   -- for this text's walks alone
set_option linter.unusedVariables false
set_option linter.unusedSimpArgs false
/-! ### dom_Nearest: function 20 -/
mutual
def dom_Nearest.l0 : Nat → List Int → List (List Int) → List Int → List Int → Int → Int → Option (List Int)
  | 0, _, _, _, _, _, _ => none
  | k + 1, x3, x4, x5, x6, x28, x29 => if x29 < x28 then (if 0 ≤ x29 then (if x29 < (x5.length : Int) then (dom_Nearest.l0 k x3 x4 (x5.set (x29 : Int).toNat (-1)) x6 x28 (wrap64 (x29 + 1))) else (none)) else (none)) else (dom_Nearest.l1 k x3 x4 x5 x6 x3 (x3.length : Int) 0)
def dom_Nearest.l1 : Nat → List Int → List (List Int) → List Int → List Int → List Int → Int → Int → Option (List Int)
  | 0, _, _, _, _, _, _, _ => none
  | k + 1, x3, x4, x5, x6, x36, x37, x38 => if x38 < x37 then (if 0 ≤ x38 then (if x38 < (x36.length : Int) then (if 0 ≤ (rd x36 x38) then (if (rd x36 x38) < (x6.length : Int) then (dom_Nearest.l1 k x3 x4 x5 (x6.set ((rd x36 x38) : Int).toNat x38) x36 x37 (wrap64 (x38 + 1))) else (none)) else (none)) else (none)) else (none)) else (if (x3.length : Int) = 0 then (some x5) else (if 0 < (x5.length : Int) then (dom_Nearest.l2 k x3 x4 (x5.set (0 : Int).toNat 0) x6 true) else (none)))
def dom_Nearest.l2 : Nat → List Int → List (List Int) → List Int → List Int → Bool → Option (List Int)
  | 0, _, _, _, _, _ => none
  | k + 1, x3, x4, x5, x6, x10 => if x10 = true then (if 1 ≤ (x3.length : Int) then ((some (x3.drop 1 : List Int)).bind fun y231 => (dom_Nearest.l3 k x3 x4 x5 x6 false y231 (y231.length : Int) 0)) else (none)) else (if 0 < (x5.length : Int) then (some (x5.set (0 : Int).toNat (-1))) else (none))
def dom_Nearest.l3 : Nat → List Int → List (List Int) → List Int → List Int → Bool → List Int → Int → Int → Option (List Int)
  | 0, _, _, _, _, _, _, _, _ => none
  | k + 1, x3, x4, x5, x6, x10, x56, x57, x58 => if x58 < x57 then (if 0 ≤ x58 then (if x58 < (x56.length : Int) then (if 0 ≤ (rd x56 x58) then (if (rd x56 x58) < (x4.length : Int) then (dom_Nearest.l4 k x3 x4 x5 x6 x10 (rd x56 x58) (-1) x56 x57 x58 (rd_L1 x4 (rd x56 x58)) ((rd_L1 x4 (rd x56 x58)).length : Int) 0) else (none)) else (none)) else (none)) else (none)) else (dom_Nearest.l2 k x3 x4 x5 x6 x10)
def dom_Nearest.l4 : Nat → List Int → List (List Int) → List Int → List Int → Bool → Int → Int → List Int → Int → Int → List Int → Int → Int → Option (List Int)
  | 0, _, _, _, _, _, _, _, _, _, _, _, _, _ => none
  | k + 1, x3, x4, x5, x6, x10, x12, x13, x56, x57, x58, x65, x66, x67 => if x67 < x66 then (if 0 ≤ x67 then (if x67 < (x65.length : Int) then (if 0 ≤ (rd x65 x67) then (if (rd x65 x67) < (x5.length : Int) then (if (rd x5 (rd x65 x67)) < 0 then (dom_Nearest.l4 k x3 x4 x5 x6 x10 x12 x13 x56 x57 x58 x65 x66 (wrap64 (x67 + 1))) else (if x13 < 0 then (dom_Nearest.l4 k x3 x4 x5 x6 x10 x12 (rd x65 x67) x56 x57 x58 x65 x66 (wrap64 (x67 + 1))) else ((dom_meet.f k x5 x6 (rd x65 x67) x13).bind fun t241 => (dom_Nearest.l4 k x3 x4 x5 x6 x10 x12 t241 x56 x57 x58 x65 x66 (wrap64 (x67 + 1)))))) else (none)) else (none)) else (none)) else (none)) else (if 0 ≤ x12 then (if x12 < (x5.length : Int) then (if (rd x5 x12) = x13 then (dom_Nearest.l3 k x3 x4 x5 x6 x10 x56 x57 (wrap64 (x58 + 1))) else (dom_Nearest.l3 k x3 x4 (x5.set (x12 : Int).toNat x13) x6 true x56 x57 (wrap64 (x58 + 1)))) else (none)) else (none))
end
def dom_Nearest.f (k : Nat) (a0_0 : Int) (a0_1 : Int) (l0_2 : List Int) (l0_3 : List (S52)) : Option (List Int) := (graph_Order.f k a0_0 a0_1 l0_2 l0_3).bind fun t211 => ((graph_Next.f k a0_0 a0_1 l0_2 l0_3).bind fun t214 => ((dom_ahead.f k t214).bind fun t217 => (if 0 ≤ (t217.length : Int) then (if ((t217.length : Int) : Int).toNat ≤ 35184372088832 then ((some (List.replicate ((t217.length : Int) : Int).toNat 0 : List Int)).bind fun y220 => (dom_Nearest.l0 k t211 t217 y220 (List.replicate ((t217.length : Int) : Int).toNat 0) (y220.length : Int) 0)) else (none)) else (none))))
theorem dom_Nearest.mono_l : ∀ k, (∀ y0 y1 y2 y3 y4 y5, LeO (dom_Nearest.l0 k y0 y1 y2 y3 y4 y5) (dom_Nearest.l0 (k + 1) y0 y1 y2 y3 y4 y5)) ∧ (∀ y0 y1 y2 y3 y4 y5 y6, LeO (dom_Nearest.l1 k y0 y1 y2 y3 y4 y5 y6) (dom_Nearest.l1 (k + 1) y0 y1 y2 y3 y4 y5 y6)) ∧ (∀ y0 y1 y2 y3 y4, LeO (dom_Nearest.l2 k y0 y1 y2 y3 y4) (dom_Nearest.l2 (k + 1) y0 y1 y2 y3 y4)) ∧ (∀ y0 y1 y2 y3 y4 y5 y6 y7, LeO (dom_Nearest.l3 k y0 y1 y2 y3 y4 y5 y6 y7) (dom_Nearest.l3 (k + 1) y0 y1 y2 y3 y4 y5 y6 y7)) ∧ (∀ y0 y1 y2 y3 y4 y5 y6 y7 y8 y9 y10 y11 y12, LeO (dom_Nearest.l4 k y0 y1 y2 y3 y4 y5 y6 y7 y8 y9 y10 y11 y12) (dom_Nearest.l4 (k + 1) y0 y1 y2 y3 y4 y5 y6 y7 y8 y9 y10 y11 y12))
  | 0 => ⟨fun _ _ _ _ _ _ r h => by simp [dom_Nearest.l0] at h, fun _ _ _ _ _ _ _ r h => by simp [dom_Nearest.l1] at h, fun _ _ _ _ _ r h => by simp [dom_Nearest.l2] at h, fun _ _ _ _ _ _ _ _ r h => by simp [dom_Nearest.l3] at h, fun _ _ _ _ _ _ _ _ _ _ _ _ _ r h => by simp [dom_Nearest.l4] at h⟩
  | k + 1 => by
    obtain ⟨ih0, ih1, ih2, ih3, ih4⟩ := dom_Nearest.mono_l k
    refine ⟨?_, ?_, ?_, ?_, ?_⟩
    · intro y0 y1 y2 y3 y4 y5
      unfold dom_Nearest.l0
      repeat' first
      | (with_reducible exact ih0 _ _ _ _ _ _)
      | (with_reducible exact ih1 _ _ _ _ _ _ _)
      | (with_reducible exact ih2 _ _ _ _ _)
      | (with_reducible exact ih3 _ _ _ _ _ _ _ _)
      | (with_reducible exact ih4 _ _ _ _ _ _ _ _ _ _ _ _ _)
      | (with_reducible exact dom_ahead.mono _ _)
      | (with_reducible exact dom_meet.mono _ _ _ _ _)
      | (with_reducible exact graph_Next.mono _ _ _ _ _)
      | (with_reducible exact graph_Order.mono _ _ _ _ _)
      | (with_reducible exact LeO.refl _)
      | (with_reducible exact LeO.none _)
      | (with_reducible refine LeO.ite ?_ ?_)
      | (with_reducible refine LeO.bind ?_ (fun _ => ?_))
      | exact ih0 _ _ _ _ _ _
      | exact ih1 _ _ _ _ _ _ _
      | exact ih2 _ _ _ _ _
      | exact ih3 _ _ _ _ _ _ _ _
      | exact ih4 _ _ _ _ _ _ _ _ _ _ _ _ _
      | exact dom_ahead.mono _ _
      | exact dom_meet.mono _ _ _ _ _
      | exact graph_Next.mono _ _ _ _ _
      | exact graph_Order.mono _ _ _ _ _
      | exact LeO.none _
      | refine LeO.ite ?_ ?_
      | refine LeO.bind ?_ (fun _ => ?_)
    · intro y0 y1 y2 y3 y4 y5 y6
      unfold dom_Nearest.l1
      repeat' first
      | (with_reducible exact ih0 _ _ _ _ _ _)
      | (with_reducible exact ih1 _ _ _ _ _ _ _)
      | (with_reducible exact ih2 _ _ _ _ _)
      | (with_reducible exact ih3 _ _ _ _ _ _ _ _)
      | (with_reducible exact ih4 _ _ _ _ _ _ _ _ _ _ _ _ _)
      | (with_reducible exact dom_ahead.mono _ _)
      | (with_reducible exact dom_meet.mono _ _ _ _ _)
      | (with_reducible exact graph_Next.mono _ _ _ _ _)
      | (with_reducible exact graph_Order.mono _ _ _ _ _)
      | (with_reducible exact LeO.refl _)
      | (with_reducible exact LeO.none _)
      | (with_reducible refine LeO.ite ?_ ?_)
      | (with_reducible refine LeO.bind ?_ (fun _ => ?_))
      | exact ih0 _ _ _ _ _ _
      | exact ih1 _ _ _ _ _ _ _
      | exact ih2 _ _ _ _ _
      | exact ih3 _ _ _ _ _ _ _ _
      | exact ih4 _ _ _ _ _ _ _ _ _ _ _ _ _
      | exact dom_ahead.mono _ _
      | exact dom_meet.mono _ _ _ _ _
      | exact graph_Next.mono _ _ _ _ _
      | exact graph_Order.mono _ _ _ _ _
      | exact LeO.none _
      | refine LeO.ite ?_ ?_
      | refine LeO.bind ?_ (fun _ => ?_)
    · intro y0 y1 y2 y3 y4
      unfold dom_Nearest.l2
      repeat' first
      | (with_reducible exact ih0 _ _ _ _ _ _)
      | (with_reducible exact ih1 _ _ _ _ _ _ _)
      | (with_reducible exact ih2 _ _ _ _ _)
      | (with_reducible exact ih3 _ _ _ _ _ _ _ _)
      | (with_reducible exact ih4 _ _ _ _ _ _ _ _ _ _ _ _ _)
      | (with_reducible exact dom_ahead.mono _ _)
      | (with_reducible exact dom_meet.mono _ _ _ _ _)
      | (with_reducible exact graph_Next.mono _ _ _ _ _)
      | (with_reducible exact graph_Order.mono _ _ _ _ _)
      | (with_reducible exact LeO.refl _)
      | (with_reducible exact LeO.none _)
      | (with_reducible refine LeO.ite ?_ ?_)
      | (with_reducible refine LeO.bind ?_ (fun _ => ?_))
      | exact ih0 _ _ _ _ _ _
      | exact ih1 _ _ _ _ _ _ _
      | exact ih2 _ _ _ _ _
      | exact ih3 _ _ _ _ _ _ _ _
      | exact ih4 _ _ _ _ _ _ _ _ _ _ _ _ _
      | exact dom_ahead.mono _ _
      | exact dom_meet.mono _ _ _ _ _
      | exact graph_Next.mono _ _ _ _ _
      | exact graph_Order.mono _ _ _ _ _
      | exact LeO.none _
      | refine LeO.ite ?_ ?_
      | refine LeO.bind ?_ (fun _ => ?_)
    · intro y0 y1 y2 y3 y4 y5 y6 y7
      unfold dom_Nearest.l3
      repeat' first
      | (with_reducible exact ih0 _ _ _ _ _ _)
      | (with_reducible exact ih1 _ _ _ _ _ _ _)
      | (with_reducible exact ih2 _ _ _ _ _)
      | (with_reducible exact ih3 _ _ _ _ _ _ _ _)
      | (with_reducible exact ih4 _ _ _ _ _ _ _ _ _ _ _ _ _)
      | (with_reducible exact dom_ahead.mono _ _)
      | (with_reducible exact dom_meet.mono _ _ _ _ _)
      | (with_reducible exact graph_Next.mono _ _ _ _ _)
      | (with_reducible exact graph_Order.mono _ _ _ _ _)
      | (with_reducible exact LeO.refl _)
      | (with_reducible exact LeO.none _)
      | (with_reducible refine LeO.ite ?_ ?_)
      | (with_reducible refine LeO.bind ?_ (fun _ => ?_))
      | exact ih0 _ _ _ _ _ _
      | exact ih1 _ _ _ _ _ _ _
      | exact ih2 _ _ _ _ _
      | exact ih3 _ _ _ _ _ _ _ _
      | exact ih4 _ _ _ _ _ _ _ _ _ _ _ _ _
      | exact dom_ahead.mono _ _
      | exact dom_meet.mono _ _ _ _ _
      | exact graph_Next.mono _ _ _ _ _
      | exact graph_Order.mono _ _ _ _ _
      | exact LeO.none _
      | refine LeO.ite ?_ ?_
      | refine LeO.bind ?_ (fun _ => ?_)
    · intro y0 y1 y2 y3 y4 y5 y6 y7 y8 y9 y10 y11 y12
      unfold dom_Nearest.l4
      repeat' first
      | (with_reducible exact ih0 _ _ _ _ _ _)
      | (with_reducible exact ih1 _ _ _ _ _ _ _)
      | (with_reducible exact ih2 _ _ _ _ _)
      | (with_reducible exact ih3 _ _ _ _ _ _ _ _)
      | (with_reducible exact ih4 _ _ _ _ _ _ _ _ _ _ _ _ _)
      | (with_reducible exact dom_ahead.mono _ _)
      | (with_reducible exact dom_meet.mono _ _ _ _ _)
      | (with_reducible exact graph_Next.mono _ _ _ _ _)
      | (with_reducible exact graph_Order.mono _ _ _ _ _)
      | (with_reducible exact LeO.refl _)
      | (with_reducible exact LeO.none _)
      | (with_reducible refine LeO.ite ?_ ?_)
      | (with_reducible refine LeO.bind ?_ (fun _ => ?_))
      | exact ih0 _ _ _ _ _ _
      | exact ih1 _ _ _ _ _ _ _
      | exact ih2 _ _ _ _ _
      | exact ih3 _ _ _ _ _ _ _ _
      | exact ih4 _ _ _ _ _ _ _ _ _ _ _ _ _
      | exact dom_ahead.mono _ _
      | exact dom_meet.mono _ _ _ _ _
      | exact graph_Next.mono _ _ _ _ _
      | exact graph_Order.mono _ _ _ _ _
      | exact LeO.none _
      | refine LeO.ite ?_ ?_
      | refine LeO.bind ?_ (fun _ => ?_)
theorem dom_Nearest.mono : ∀ a0 a1 a2 a3 k, LeO (dom_Nearest.f k a0 a1 a2 a3) (dom_Nearest.f (k + 1) a0 a1 a2 a3) := by
  intro a0 a1 a2 a3 k
  obtain ⟨ih0, ih1, ih2, ih3, ih4⟩ := dom_Nearest.mono_l k
  unfold dom_Nearest.f
  repeat' first
      | (with_reducible exact ih0 _ _ _ _ _ _)
      | (with_reducible exact ih1 _ _ _ _ _ _ _)
      | (with_reducible exact ih2 _ _ _ _ _)
      | (with_reducible exact ih3 _ _ _ _ _ _ _ _)
      | (with_reducible exact ih4 _ _ _ _ _ _ _ _ _ _ _ _ _)
      | (with_reducible exact dom_ahead.mono _ _)
      | (with_reducible exact dom_meet.mono _ _ _ _ _)
      | (with_reducible exact graph_Next.mono _ _ _ _ _)
      | (with_reducible exact graph_Order.mono _ _ _ _ _)
      | (with_reducible exact LeO.refl _)
      | (with_reducible exact LeO.none _)
      | (with_reducible refine LeO.ite ?_ ?_)
      | (with_reducible refine LeO.bind ?_ (fun _ => ?_))
      | exact ih0 _ _ _ _ _ _
      | exact ih1 _ _ _ _ _ _ _
      | exact ih2 _ _ _ _ _
      | exact ih3 _ _ _ _ _ _ _ _
      | exact ih4 _ _ _ _ _ _ _ _ _ _ _ _ _
      | exact dom_ahead.mono _ _
      | exact dom_meet.mono _ _ _ _ _
      | exact graph_Next.mono _ _ _ _ _
      | exact graph_Order.mono _ _ _ _ _
      | exact LeO.none _
      | refine LeO.ite ?_ ?_
      | refine LeO.bind ?_ (fun _ => ?_)
def dom_Nearest.T2 : Bool × List (List Nat × List Nat) := (true, [([], []), ([0], [0]), ([1, 1], [1]), ([], []), ([3], [3]), ([4, 4], [4]), ([2, 0, 1, 2], [2]), ([5, 6, 0, 1, 2, 3, 4, 5, 6], [5])])
def dom_Nearest.B2 : List Nat := [0, 1, 3, 0, 8, 24, 7, 127]
theorem dom_Nearest.tab2 : rtab .any (opsOf Try.f20 2) = dom_Nearest.T2 := by kernel_rfl
theorem dom_Nearest.bits2 : waitsOk dom_Nearest.T2.2 dom_Nearest.B2 = true := by kernel_rfl
set_option maxHeartbeats 8000000 in
set_option maxRecDepth 100000 in
theorem dom_Nearest.calls (k : Nat) (a0_0 : Int) (a0_1 : Int) (A0_2 : Option Addr) (c0_2 : Nat) (l0_2 : List Int) (A0_3 : Option Addr) (c0_3 : Nat) (l0_3 : List (S52)) (r : List Int) (w : World) (hr0_2 : Kd.C (Kd.int .i64) w A0_2 l0_2.length l0_2) (hc0_2 : l0_2.length ≤ c0_2) (hr0_3 : Kd.C k52 w A0_3 l0_3.length l0_3) (hc0_3 : l0_3.length ≤ c0_3) (h : dom_Nearest.f k a0_0 a0_1 l0_2 l0_3 = some r) :
    Calls Try.prog 20 #[.agg #[.int .i64 a0_0, .int .i64 a0_1, .slice A0_2 l0_2.length c0_2, .slice A0_3 l0_3.length c0_3]] w fun e w' => ∃ v0_ : Value, e = .returned (v0_) ∧ Kd.R (Kd.int .i64) 3 w' w.heap.size (fun _ => True) v0_ r ∧ Below w.heap.size w w' := by
  have hu25 := Try.underlying25
  have HR0_2 := Aside0.mk hr0_2
  have HC0_2 := Aside0.mk hc0_2
  clear hr0_2 hc0_2
  have HR0_3 := Aside0.mk hr0_3
  have HC0_3 := Aside0.mk hc0_3
  clear hr0_3 hc0_3
  have HB := Aside0.mk (Below.refl w.heap.size w)
  have H : ((graph_Order.f k a0_0 a0_1 l0_2 l0_3).bind fun t211 => ((graph_Next.f k a0_0 a0_1 l0_2 l0_3).bind fun t214 => ((dom_ahead.f k t214).bind fun t217 => (if 0 ≤ (t217.length : Int) then (if ((t217.length : Int) : Int).toNat ≤ 35184372088832 then ((some (List.replicate ((t217.length : Int) : Int).toNat 0 : List Int)).bind fun y220 => (dom_Nearest.l0 k t211 t217 y220 (List.replicate ((t217.length : Int) : Int).toNat 0) (y220.length : Int) 0)) else (none)) else (none))))) = some r := h
  clear h
  replace H := Option.bind_eq_some_iff.mp H
  obtain ⟨t211, A20, H⟩ := H
  replace H : ((graph_Next.f k a0_0 a0_1 l0_2 l0_3).bind fun t214 => ((dom_ahead.f k t214).bind fun t217 => (if 0 ≤ (t217.length : Int) then (if ((t217.length : Int) : Int).toNat ≤ 35184372088832 then ((some (List.replicate ((t217.length : Int) : Int).toNat 0 : List Int)).bind fun y220 => (dom_Nearest.l0 k t211 t217 y220 (List.replicate ((t217.length : Int) : Int).toNat 0) (y220.length : Int) 0)) else (none)) else (none)))) = some r := H
  have A2 := Aside0.mk A20
  clear A20
  replace H := Option.bind_eq_some_iff.mp H
  obtain ⟨t214, A30, H⟩ := H
  replace H : ((dom_ahead.f k t214).bind fun t217 => (if 0 ≤ (t217.length : Int) then (if ((t217.length : Int) : Int).toNat ≤ 35184372088832 then ((some (List.replicate ((t217.length : Int) : Int).toNat 0 : List Int)).bind fun y220 => (dom_Nearest.l0 k t211 t217 y220 (List.replicate ((t217.length : Int) : Int).toNat 0) (y220.length : Int) 0)) else (none)) else (none))) = some r := H
  have A3 := Aside0.mk A30
  clear A30
  replace H := Option.bind_eq_some_iff.mp H
  obtain ⟨t217, A40, H⟩ := H
  replace H : (if 0 ≤ (t217.length : Int) then (if ((t217.length : Int) : Int).toNat ≤ 35184372088832 then ((some (List.replicate ((t217.length : Int) : Int).toNat 0 : List Int)).bind fun y220 => (dom_Nearest.l0 k t211 t217 y220 (List.replicate ((t217.length : Int) : Int).toNat 0) (y220.length : Int) 0)) else (none)) else (none)) = some r := H
  have A4 := Aside0.mk A40
  clear A40
  by_cases c5 : 0 ≤ (t217.length : Int)
  rotate_left
  · rw [if_neg c5] at H
    exact absurd H (by simp)
  rw [if_pos c5] at H
  have c5b0 := eq_true c5
  have c5b1 : decide (0 ≤ (t217.length : Int)) = true := decide_eq_true c5
  clear c5
  by_cases c6 : ((t217.length : Int) : Int).toNat ≤ 35184372088832
  rotate_left
  · rw [if_neg c6] at H
    exact absurd H (by simp)
  rw [if_pos c6] at H
  have c6b0 := eq_true c6
  have c6b1 : decide (((t217.length : Int) : Int).toNat ≤ 35184372088832) = true := decide_eq_true c6
  clear c6
  obtain ⟨y220, hy220⟩ : ∃ y_ : List Int, y_ = (List.replicate ((t217.length : Int) : Int).toNat 0) := ⟨_, rfl⟩
  replace H : (dom_Nearest.l0 k t211 t217 y220 (List.replicate ((t217.length : Int) : Int).toNat 0) (y220.length : Int) 0) = some r := by first | (rw [hy220]; with_reducible exact H) | (have H2_ := (Option.bind_some _ _).symm.trans H; rw [hy220]; with_reducible exact H2_) | exact H
  have Ny220 := Aside0.mk hy220
  clear hy220
  obtain ⟨y223, hy223⟩ : ∃ y_ : List Int, y_ = (List.replicate ((t217.length : Int) : Int).toNat 0) := ⟨_, rfl⟩
  replace H : (dom_Nearest.l0 k t211 t217 y220 y223 (y220.length : Int) 0) = some r := by first | (rw [hy223]; with_reducible exact H) | (have H2_ := (Option.bind_some _ _).symm.trans H; rw [hy223]; with_reducible exact H2_) | exact H
  have Ny223 := Aside0.mk hy223
  clear hy223
  have H' := Aside0.mk H
  clear H
  go_enter Try.func20, Try.ntmps20
  try go_wp2_with (first | ((with_reducible refine gate_dst (N := 1) rfl ?_); refine box_event ?hg (N := 1) ?hd (cs := #[.int .i64 a0_0, .int .i64 a0_1, .slice A0_2 l0_2.length c0_2, .slice A0_3 l0_3.length c0_3]) (t := 25) ?hr ?_; (case hd => rfl); (case hg => rfl); (case hr => first | (go_simp; done) | (go_simp; rfl)); intro gb210 hg w7 hbox hb; have n0_ := Aside0.mk (below_step (lu HB.out) hb); have n1_ := Aside0.mk (hbox); have n2_ := Aside0.mk ((by rw [hg]; exact (below_size (lu HB.out)) : w.heap.size ≤ gb210)); have n3_ := Aside0.mk ((by rw [hg]; exact (below_size (lu HB.out)) : w.heap.size ≤ gb210)); clear HB; have HB := n0_; have BK210 := n1_; have GW210 := n2_; have GE210 := n3_; clear n0_ n1_ n2_ n3_; clear hb hbox hg))
  have n0_ := Aside0.mk (blk_drew BK210.out)
  have n1_ := Aside0.mk (below_drew1 HB.out)
  clear BK210
  clear HB
  have BK210 := n0_
  have HB := n1_
  clear n0_ n1_
  refine start_ (n := 7) (S := fun w' => w'.cell? ⟨gb210, 0, none⟩ = some (.int .i64 a0_0) ∧ w'.cell? ⟨gb210, 1, none⟩ = some (.int .i64 a0_1) ∧ w'.cell? ⟨gb210, 2, none⟩ = some (.slice A0_2 l0_2.length c0_2) ∧ w'.cell? ⟨gb210, 3, none⟩ = some (.slice A0_3 l0_3.length c0_3)) (ds := []) #[false, false, false, false, false, false, false] (by kernel_rfl) rfl rfl ⟨(blk_cell BK210.out 0).trans rfl, (blk_cell BK210.out 1).trans rfl, (blk_cell BK210.out 2).trans rfl, (blk_cell BK210.out 3).trans rfl⟩ (fun hHeld => ?_)
  generalize w7.drew = w8 at BK210 HB hHeld ⊢
  refine take_ (i := 0) (N := some 16) (v := ?_) (a' := ?_) #[true, false, false, false, false, false, false] rfl rfl (by kernel_rfl) (fun _ _ _ h => h) (Or.inl ⟨by rfl, ?_⟩) hHeld ?_ ?_
  rotate_left
  · rintro w' ⟨s0, s1, s2, s3⟩
    go_simp
    with_reducible rfl
  rotate_left
  · simp only [Act.put, List.setIfInBounds_toArray, List.set_cons_zero, List.set_cons_succ, i64_w, i32_w]
    rfl
  refine take_ (i := 2) (N := some 18) (v := ?_) (a' := ?_) #[true, false, true, false, false, false, false] rfl rfl (by kernel_rfl) (fun _ _ _ h => h) (Or.inl ⟨by rfl, ?_⟩) hHeld ?_ ?_
  rotate_left
  · rintro w' ⟨s0, s1, s2, s3⟩
    go_simp
    with_reducible rfl
  rotate_left
  · simp only [Act.put, List.setIfInBounds_toArray, List.set_cons_zero, List.set_cons_succ, i64_w, i32_w]
    rfl
  refine one_ (i := 1) (N := some 17) #[true, true, true, false, false, false, false] rfl rfl (by kernel_rfl) (by decide) (fun K hK => ?_)
  refine goes_ Try.func34 (by kernel_rfl) rfl #[.agg #[.int .i64 a0_0, .int .i64 a0_1, .slice A0_2 l0_2.length c0_2, .slice A0_3 l0_3.length c0_3]] (by rfl) rfl rfl (by (try simp only [List.map_toArray, List.map_cons, List.map_nil]); first | done | rfl) ?_
  with_reducible refine (graph_Order.calls k a0_0 a0_1 _ _ l0_2 _ _ l0_3 t211 _ ?side1 ?side2 ?side3 ?side4 A2.out).mono ?_
  (case side1 => exact cu (C_below HR0_2.out HB.out))
  (case side2 => exact HC0_2.out)
  (case side3 => exact cu (C_below HR0_3.out HB.out))
  (case side4 => exact HC0_3.out)
  rintro e w9 ⟨v212, rfl, ho0, hb⟩
  refine ⟨_, rfl, ?_⟩
  have n0_ := Aside0.mk (Kd.R_lower ho0 (below_size (lu HB.out)))
  have n1_ := Aside0.mk (blk_below (bu BK210.out) hb)
  have n2_ := Aside0.mk (below_step (lu HB.out) hb)
  clear BK210
  clear HB
  have HO213 := n0_
  have BK210 := n1_
  have HB := n2_
  clear n0_ n1_ n2_
  (try clear hb)
  (try clear hb2)
  (try clear hk)
  (try clear hi)
  (try clear ho0)
  refine hK.out _ _ ⟨(blk_cell BK210.out 0).trans rfl, (blk_cell BK210.out 1).trans rfl, (blk_cell BK210.out 2).trans rfl, (blk_cell BK210.out 3).trans rfl⟩ (fun hHeld => ?_)
  clear hK K
  refine norm_ (a' := ?_) ?_ ?_
  rotate_left
  · show Act.put _ (some 17) _ = _
    simp only [Act.put, List.setIfInBounds_toArray, List.set_cons_zero, List.set_cons_succ, i64_w, i32_w]
    rfl
  refine one_ (i := 3) (N := some 19) #[true, true, true, true, false, false, false] rfl rfl (by kernel_rfl) (by decide) (fun K hK => ?_)
  refine goes_ Try.func31 (by kernel_rfl) rfl #[.agg #[.int .i64 a0_0, .int .i64 a0_1, .slice A0_2 l0_2.length c0_2, .slice A0_3 l0_3.length c0_3]] (by rfl) rfl rfl (by (try simp only [List.map_toArray, List.map_cons, List.map_nil]); first | done | rfl) ?_
  with_reducible refine (graph_Next.calls k a0_0 a0_1 _ _ l0_2 _ _ l0_3 t214 _ ?side1 ?side2 ?side3 ?side4 A3.out).mono ?_
  (case side1 => exact cu (C_below HR0_2.out HB.out))
  (case side2 => exact HC0_2.out)
  (case side3 => exact cu (C_below HR0_3.out HB.out))
  (case side4 => exact HC0_3.out)
  rintro e w10 ⟨v215, rfl, ho0, hb⟩
  refine ⟨_, rfl, ?_⟩
  have n0_ := Aside0.mk (Kd.R_below (ru HO213.out) hb)
  have n1_ := Aside0.mk (Kd.S_lower (Kd.S_new' ho0 (R_lt (ru HO213.out))) (below_size (lu HB.out)))
  have n2_ := Aside0.mk (blk_below (bu BK210.out) hb)
  have n3_ := Aside0.mk (below_step (lu HB.out) hb)
  clear HO213
  clear BK210
  clear HB
  have HO213 := n0_
  have HO216 := n1_
  have BK210 := n2_
  have HB := n3_
  clear n0_ n1_ n2_ n3_
  (try clear hb)
  (try clear hb2)
  (try clear hk)
  (try clear hi)
  (try clear ho0)
  obtain ⟨Ao11, co11, eo11⟩ := Kd.S_slice HO216.out
  (first | subst eo11 | (injection eo11 with f1_ f2_ f3_; have f4_ := f1_.symm; have f5_ := f3_.symm; clear f1_ f2_ f3_; subst f4_; subst f5_))
  refine hK.out _ _ ⟨(blk_cell BK210.out 0).trans rfl, (blk_cell BK210.out 1).trans rfl, (blk_cell BK210.out 2).trans rfl, (blk_cell BK210.out 3).trans rfl⟩ (fun hHeld => ?_)
  clear hK K
  refine norm_ (a' := ?_) ?_ ?_
  rotate_left
  · show Act.put _ (some 19) _ = _
    simp only [Act.put, List.setIfInBounds_toArray, List.set_cons_zero, List.set_cons_succ, i64_w, i32_w]
    rfl
  refine one_ (i := 4) (N := some 20) #[true, true, true, true, true, false, false] rfl rfl (by kernel_rfl) (by decide) (fun K hK => ?_)
  refine goes_ Try.func35 (by kernel_rfl) rfl #[.slice Ao11 t214.length co11] (by rfl) rfl rfl (by (try simp only [List.map_toArray, List.map_cons, List.map_nil]); first | done | rfl) ?_
  with_reducible refine (dom_ahead.calls k _ _ t214 t217 _ ?side1 ?side2 A4.out).mono ?_
  (case side1 => repeat (first | exact (S_reads' HO216.out).2.2 | (with_reducible refine C_alloc ?_ _) | (with_reducible refine C_drewN ?_ _) | (with_reducible refine C_drew ?_)))
  (case side2 => exact (S_reads' HO216.out).2.1)
  rintro e w12 ⟨v218, rfl, ho0, hb⟩
  refine ⟨_, rfl, ?_⟩
  have n0_ := Aside0.mk (Kd.R_below (ru HO213.out) hb)
  have n1_ := Aside0.mk (Kd.S_elder' (su HO216.out) (Kd.S_base ho0) hb)
  have n2_ := Aside0.mk (Kd.S_lower (Kd.S_new' (Kd.S_new' ho0 (R_lt (ru HO213.out))) (Kd.S_lt (su HO216.out))) (below_size (lu HB.out)))
  have n3_ := Aside0.mk (blk_below (bu BK210.out) hb)
  have n4_ := Aside0.mk (below_step (lu HB.out) hb)
  clear HO213
  clear HO216
  clear BK210
  clear HB
  have HO213 := n0_
  have HO216 := n1_
  have HO219 := n2_
  have BK210 := n3_
  have HB := n4_
  clear n0_ n1_ n2_ n3_ n4_
  (try clear hb)
  (try clear hb2)
  (try clear hk)
  (try clear hi)
  (try clear ho0)
  refine hK.out _ _ ⟨(blk_cell BK210.out 0).trans rfl, (blk_cell BK210.out 1).trans rfl, (blk_cell BK210.out 2).trans rfl, (blk_cell BK210.out 3).trans rfl⟩ (fun hHeld => ?_)
  clear hK K
  refine norm_ (a' := ?_) ?_ ?_
  rotate_left
  · show Act.put _ (some 20) _ = _
    simp only [Act.put, List.setIfInBounds_toArray, List.set_cons_zero, List.set_cons_succ, i64_w, i32_w]
    rfl
  refine pure_ (i := 5) (N := some 3) (v := ?_) (a' := ?_) #[true, true, true, true, true, true, false] rfl rfl (by kernel_rfl) (fun _ _ _ h => h) (Or.inl ⟨by rfl, ?_⟩) ?_ ?_
  rotate_left
  · intro w'
    go_simp
    with_reducible rfl
  rotate_left
  · simp only [Act.put, List.setIfInBounds_toArray, List.set_cons_zero, List.set_cons_succ, i64_w, i32_w]
    rfl
  refine pure_ (i := 6) (N := some 4) (v := ?_) (a' := ?_) #[true, true, true, true, true, true, true] rfl rfl (by kernel_rfl) (fun _ _ _ h => h) (Or.inl ⟨by rfl, ?_⟩) ?_ ?_
  rotate_left
  · intro w'
    go_simp
    with_reducible rfl
  rotate_left
  · simp only [Act.put, List.setIfInBounds_toArray, List.set_cons_zero, List.set_cons_succ, i64_w, i32_w]
    rfl
  refine done_ (by kernel_rfl) ?_
  try go_wp2
  have n0_ := Aside0.mk (R_drew HO213.out)
  have n1_ := Aside0.mk (S_drew HO216.out)
  have n2_ := Aside0.mk (S_drew HO219.out)
  have n3_ := Aside0.mk (blk_drew BK210.out)
  have n4_ := Aside0.mk (below_drew1 HB.out)
  clear HO213
  clear HO216
  clear HO219
  clear BK210
  clear HB
  have HO213 := n0_
  have HO216 := n1_
  have HO219 := n2_
  have BK210 := n3_
  have HB := n4_
  clear n0_ n1_ n2_ n3_ n4_
  obtain ⟨Ao14, co14, eo14⟩ := Kd.S_slice HO219.out
  (first | subst eo14 | (injection eo14 with f1_ f2_ f3_; have f4_ := f1_.symm; have f5_ := f3_.symm; clear f1_ f2_ f3_; subst f4_; subst f5_))
  refine start_ (n := 8) (S := fun w' => True) (ds := []) #[false, false, false, false, false, false, false, false] (by kernel_rfl) rfl rfl trivial (fun hHeld => ?_); refine with_tabW dom_Nearest.tab2 dom_Nearest.bits2 (fun HT_ HW_ => ?_)
  generalize w12.drew = w13 at HO213 HO216 HO219 BK210 HB hHeld ⊢
  refine pu 0 21 (bt 8 1) HT_.out ?_
  refine pu 1 22 (bt 8 3) HT_.out ?_
  refine pu 3 24 (bt 8 11) HT_.out ?_
  refine pu 4 25 (bt 8 27) HT_.out ?_
  refine join_ (σ := Value × Value) 1 #[true, true, true, true, true, true, true, false] (fun s_ => [(23, s_.1), (26, s_.2), (5, s_.1)]) (fun s_ w' => (Kd.R (Kd.int .i64) 3 w' w.heap.size (fun k_ => some k_ ≠ (s_.1 : Value).ownBlock ∧ some k_ ≠ (s_.2 : Value).ownBlock) v212 t211) ∧ (Kd.S (Kd.slice 3 (Kd.int .i64)) 22 w' w.heap.size (fun k_ => some k_ ≠ (v212 : Value).ownBlock ∧ some k_ ≠ (.slice Ao14 t217.length co14 : Value).ownBlock ∧ some k_ ≠ (s_.1 : Value).ownBlock ∧ some k_ ≠ (s_.2 : Value).ownBlock) (.slice Ao11 t214.length co11) t214) ∧ (Kd.S (Kd.slice 3 (Kd.int .i64)) 22 w' w.heap.size (fun k_ => some k_ ≠ (v212 : Value).ownBlock ∧ some k_ ≠ (.slice Ao11 t214.length co11 : Value).ownBlock ∧ some k_ ≠ (s_.1 : Value).ownBlock ∧ some k_ ≠ (s_.2 : Value).ownBlock) (.slice Ao14 t217.length co14) t217) ∧ (Kd.R (Kd.int .i64) 3 w' w.heap.size (fun k_ => some k_ ≠ (v212 : Value).ownBlock ∧ some k_ ≠ (s_.2 : Value).ownBlock) s_.1 y220) ∧ (Kd.R (Kd.int .i64) 3 w' w.heap.size (fun k_ => some k_ ≠ (v212 : Value).ownBlock ∧ some k_ ≠ (s_.1 : Value).ownBlock) s_.2 y223) ∧ (w'.heap[gb210]? = some (.cells #[.int .i64 a0_0, .int .i64 a0_1, .slice A0_2 l0_2.length c0_2, .slice A0_3 l0_3.length c0_3] 25 (0, 0))) ∧ (Below w.heap.size w w')) ?_ ?_
  rotate_left
  · intro hCont
    refine two_ (i := 2) (j := 5) (Ni := some 23) (Nj := some 26) #[true, true, true, true, true, false, false, false] #[true, true, false, true, true, true, false, false] rfl rfl rfl rfl (two_of HT_.out (by kernel_rfl)) (by decide) (by decide) (fun K hK => ?_) (fun K hK => ?_)
    · skip
      refine Kd.R_make_step (Kd.int .i64) _ 3 (by rfl) (N := 23) rfl 22 _ _ rfl (t217.length : Int) rfl rfl Try.underlying22 (.int .i64 0) 8 info3 rfl (by decide) (by omega) 0 (ok := fun _ => True) (okp := fun _ => True) rfl (fun _ hk => hk) trivial (of_decide_eq_true (by with_reducible assumption)) (Nat.le_trans (Nat.mul_le_mul_right _ (of_decide_eq_true (by with_reducible assumption) : (t217.length : Int).toNat ≤ 35184372088832)) (by omega)) (Below.refl _ _) (Nat.le_refl _) ?_
      intro v221 w15 ho16 hb hg_ hnew_
      clear hg_ hnew_
      rw [← Ny220.out] at ho16
      have n0_ := Aside0.mk (R_elder' (ru HO213.out) (R_base ho16) hb)
      have n1_ := Aside0.mk (Kd.S_elder' (su HO216.out) (R_base ho16) hb)
      have n2_ := Aside0.mk (Kd.S_elder' (su HO219.out) (R_base ho16) hb)
      have n3_ := Aside0.mk (Kd.R_lower (R_new' ho16 (R_lt (ru HO213.out))) (below_size (lu HB.out)))
      have n4_ := Aside0.mk (blk_below (bu BK210.out) hb)
      have n5_ := Aside0.mk (below_step (lu HB.out) hb)
      clear HO213
      clear HO216
      clear HO219
      clear BK210
      clear HB
      have HO213 := n0_
      have HO216 := n1_
      have HO219 := n2_
      have HO222 := n3_
      have BK210 := n4_
      have HB := n5_
      clear n0_ n1_ n2_ n3_ n4_ n5_
      clear hb ho16
      refine hK.out _ _ trivial (fun hHeld => ?_)
      clear hK K
      refine norm_ (a' := ?_) ?_ ?_
      rotate_left
      · show Act.put _ (some 23) _ = _
        simp only [Act.put, List.setIfInBounds_toArray, List.set_cons_zero, List.set_cons_succ, i64_w, i32_w]
        rfl
      refine pu 6 5 (bt 8 95) HT_.out ?_
      refine one_ (i := 5) (N := some 26) #[true, true, true, true, true, true, true, false] rfl rfl (one_of HT_.out (by kernel_rfl)) (by decide) (fun K hK => ?_)
      refine Kd.R_make_step (Kd.int .i64) _ 3 (by rfl) (N := 26) rfl 22 _ _ rfl (t217.length : Int) rfl rfl Try.underlying22 (.int .i64 0) 8 info3 rfl (by decide) (by omega) 0 (ok := fun _ => True) (okp := fun _ => True) rfl (fun _ hk => hk) trivial (of_decide_eq_true (by with_reducible assumption)) (Nat.le_trans (Nat.mul_le_mul_right _ (of_decide_eq_true (by with_reducible assumption) : (t217.length : Int).toNat ≤ 35184372088832)) (by omega)) (Below.refl _ _) (Nat.le_refl _) ?_
      intro v224 w17 ho18 hb hg_ hnew_
      clear hg_ hnew_
      rw [← Ny223.out] at ho18
      have n0_ := Aside0.mk (R_elder' (ru HO213.out) (R_base ho18) hb)
      have n1_ := Aside0.mk (Kd.S_elder' (su HO216.out) (R_base ho18) hb)
      have n2_ := Aside0.mk (Kd.S_elder' (su HO219.out) (R_base ho18) hb)
      have n3_ := Aside0.mk (R_elder' (ru HO222.out) (R_base ho18) hb)
      have n4_ := Aside0.mk (Kd.R_lower (R_new' (R_new' ho18 (R_lt (ru HO213.out))) (R_lt (ru HO222.out))) (below_size (lu HB.out)))
      have n5_ := Aside0.mk (blk_below (bu BK210.out) hb)
      have n6_ := Aside0.mk (below_step (lu HB.out) hb)
      clear HO213
      clear HO216
      clear HO219
      clear HO222
      clear BK210
      clear HB
      have HO213 := n0_
      have HO216 := n1_
      have HO219 := n2_
      have HO222 := n3_
      have HO225 := n4_
      have BK210 := n5_
      have HB := n6_
      clear n0_ n1_ n2_ n3_ n4_ n5_ n6_
      clear hb ho18
      refine hK.out _ _ trivial (fun hHeld => ?_)
      clear hK K
      refine norm_ (a' := ?_) ?_ ?_
      rotate_left
      · show Act.put _ (some 26) _ = _
        simp only [Act.put, List.setIfInBounds_toArray, List.set_cons_zero, List.set_cons_succ, i64_w, i32_w]
        rfl
      exact norm_ (by simp only [putAll, Act.put, List.setIfInBounds_toArray, List.set_cons_zero, List.set_cons_succ]) (hCont (v221, v224) _ ⟨(ru (R_mono HO213.out (fun _ hk => ⟨hk.1.2, hk.2⟩))), (su (S_mono HO216.out (fun _ hk => ⟨hk.1.1.1.2, ⟨hk.1.1.2, ⟨hk.1.2, hk.2⟩⟩⟩))), (su (S_mono HO219.out (fun _ hk => ⟨hk.1.1.1.2, ⟨hk.1.1.2, ⟨hk.1.2, hk.2⟩⟩⟩))), (ru (R_mono HO222.out (fun _ hk => ⟨hk.1.2, hk.2⟩))), (ru (R_mono HO225.out (fun _ hk => ⟨hk.1.2, hk.2⟩))), (bu BK210.out), (lu HB.out)⟩)
    skip
    refine Kd.R_make_step (Kd.int .i64) _ 3 (by rfl) (N := 26) rfl 22 _ _ rfl (t217.length : Int) rfl rfl Try.underlying22 (.int .i64 0) 8 info3 rfl (by decide) (by omega) 0 (ok := fun _ => True) (okp := fun _ => True) rfl (fun _ hk => hk) trivial (of_decide_eq_true (by with_reducible assumption)) (Nat.le_trans (Nat.mul_le_mul_right _ (of_decide_eq_true (by with_reducible assumption) : (t217.length : Int).toNat ≤ 35184372088832)) (by omega)) (Below.refl _ _) (Nat.le_refl _) ?_
    intro v224 w15 ho16 hb hg_ hnew_
    clear hg_ hnew_
    rw [← Ny223.out] at ho16
    have n0_ := Aside0.mk (R_elder' (ru HO213.out) (R_base ho16) hb)
    have n1_ := Aside0.mk (Kd.S_elder' (su HO216.out) (R_base ho16) hb)
    have n2_ := Aside0.mk (Kd.S_elder' (su HO219.out) (R_base ho16) hb)
    have n3_ := Aside0.mk (Kd.R_lower (R_new' ho16 (R_lt (ru HO213.out))) (below_size (lu HB.out)))
    have n4_ := Aside0.mk (blk_below (bu BK210.out) hb)
    have n5_ := Aside0.mk (below_step (lu HB.out) hb)
    clear HO213
    clear HO216
    clear HO219
    clear BK210
    clear HB
    have HO213 := n0_
    have HO216 := n1_
    have HO219 := n2_
    have HO225 := n3_
    have BK210 := n4_
    have HB := n5_
    clear n0_ n1_ n2_ n3_ n4_ n5_
    clear hb ho16
    refine hK.out _ _ trivial (fun hHeld => ?_)
    clear hK K
    refine norm_ (a' := ?_) ?_ ?_
    rotate_left
    · show Act.put _ (some 26) _ = _
      simp only [Act.put, List.setIfInBounds_toArray, List.set_cons_zero, List.set_cons_succ, i64_w, i32_w]
      rfl
    refine one_ (i := 2) (N := some 23) #[true, true, true, true, true, true, false, false] rfl rfl (one_of HT_.out (by kernel_rfl)) (by decide) (fun K hK => ?_)
    refine Kd.R_make_step (Kd.int .i64) _ 3 (by rfl) (N := 23) rfl 22 _ _ rfl (t217.length : Int) rfl rfl Try.underlying22 (.int .i64 0) 8 info3 rfl (by decide) (by omega) 0 (ok := fun _ => True) (okp := fun _ => True) rfl (fun _ hk => hk) trivial (of_decide_eq_true (by with_reducible assumption)) (Nat.le_trans (Nat.mul_le_mul_right _ (of_decide_eq_true (by with_reducible assumption) : (t217.length : Int).toNat ≤ 35184372088832)) (by omega)) (Below.refl _ _) (Nat.le_refl _) ?_
    intro v221 w17 ho18 hb hg_ hnew_
    clear hg_ hnew_
    rw [← Ny220.out] at ho18
    have n0_ := Aside0.mk (R_elder' (ru HO213.out) (R_base ho18) hb)
    have n1_ := Aside0.mk (Kd.S_elder' (su HO216.out) (R_base ho18) hb)
    have n2_ := Aside0.mk (Kd.S_elder' (su HO219.out) (R_base ho18) hb)
    have n3_ := Aside0.mk (R_elder' (ru HO225.out) (R_base ho18) hb)
    have n4_ := Aside0.mk (Kd.R_lower (R_new' (R_new' ho18 (R_lt (ru HO213.out))) (R_lt (ru HO225.out))) (below_size (lu HB.out)))
    have n5_ := Aside0.mk (blk_below (bu BK210.out) hb)
    have n6_ := Aside0.mk (below_step (lu HB.out) hb)
    clear HO213
    clear HO216
    clear HO219
    clear HO225
    clear BK210
    clear HB
    have HO213 := n0_
    have HO216 := n1_
    have HO219 := n2_
    have HO225 := n3_
    have HO222 := n4_
    have BK210 := n5_
    have HB := n6_
    clear n0_ n1_ n2_ n3_ n4_ n5_ n6_
    clear hb ho18
    refine hK.out _ _ trivial (fun hHeld => ?_)
    clear hK K
    refine norm_ (a' := ?_) ?_ ?_
    rotate_left
    · show Act.put _ (some 23) _ = _
      simp only [Act.put, List.setIfInBounds_toArray, List.set_cons_zero, List.set_cons_succ, i64_w, i32_w]
      rfl
    refine pu 6 5 (bt 8 127) HT_.out ?_
    exact norm_ (by simp only [putAll, Act.put, List.setIfInBounds_toArray, List.set_cons_zero, List.set_cons_succ]) (hCont (v221, v224) _ ⟨(ru (R_mono HO213.out (fun _ hk => ⟨hk.2, hk.1.2⟩))), (su (S_mono HO216.out (fun _ hk => ⟨hk.1.1.1.2, ⟨hk.1.1.2, ⟨hk.2, hk.1.2⟩⟩⟩))), (su (S_mono HO219.out (fun _ hk => ⟨hk.1.1.1.2, ⟨hk.1.1.2, ⟨hk.2, hk.1.2⟩⟩⟩))), (ru (R_mono HO222.out (fun _ hk => ⟨hk.1.2, hk.2⟩))), (ru (R_mono HO225.out (fun _ hk => ⟨hk.1.2, hk.2⟩))), (bu BK210.out), (lu HB.out)⟩)
  rintro ⟨v221, v224⟩ w19 ⟨h0_, h1_, h2_, h3_, h4_, h5_, h6_⟩
  have n0_ : Aside0 (Kd.R (Kd.int .i64) 3 w19 w.heap.size (fun k_ => some k_ ≠ (v221 : Value).ownBlock ∧ some k_ ≠ (v224 : Value).ownBlock) v212 t211) := ⟨h0_⟩
  have n1_ : Aside0 (Kd.S (Kd.slice 3 (Kd.int .i64)) 22 w19 w.heap.size (fun k_ => some k_ ≠ (v212 : Value).ownBlock ∧ some k_ ≠ (.slice Ao14 t217.length co14 : Value).ownBlock ∧ some k_ ≠ (v221 : Value).ownBlock ∧ some k_ ≠ (v224 : Value).ownBlock) (.slice Ao11 t214.length co11) t214) := ⟨h1_⟩
  have n2_ : Aside0 (Kd.S (Kd.slice 3 (Kd.int .i64)) 22 w19 w.heap.size (fun k_ => some k_ ≠ (v212 : Value).ownBlock ∧ some k_ ≠ (.slice Ao11 t214.length co11 : Value).ownBlock ∧ some k_ ≠ (v221 : Value).ownBlock ∧ some k_ ≠ (v224 : Value).ownBlock) (.slice Ao14 t217.length co14) t217) := ⟨h2_⟩
  have n3_ : Aside0 (Kd.R (Kd.int .i64) 3 w19 w.heap.size (fun k_ => some k_ ≠ (v212 : Value).ownBlock ∧ some k_ ≠ (v224 : Value).ownBlock) v221 y220) := ⟨h3_⟩
  have n4_ : Aside0 (Kd.R (Kd.int .i64) 3 w19 w.heap.size (fun k_ => some k_ ≠ (v212 : Value).ownBlock ∧ some k_ ≠ (v221 : Value).ownBlock) v224 y223) := ⟨h4_⟩
  have n5_ : Aside0 (w19.heap[gb210]? = some (.cells #[.int .i64 a0_0, .int .i64 a0_1, .slice A0_2 l0_2.length c0_2, .slice A0_3 l0_3.length c0_3] 25 (0, 0))) := ⟨h5_⟩
  have n6_ : Aside0 (Below w.heap.size w w19) := ⟨h6_⟩
  clear HO213
  clear HO216
  clear HO219
  clear BK210
  clear HB
  clear h0_ h1_ h2_ h3_ h4_ h5_ h6_
  have HO213 := n0_
  have HO216 := n1_
  have HO219 := n2_
  have HO222 := n3_
  have HO225 := n4_
  have BK210 := n5_
  have HB := n6_
  clear n0_ n1_ n2_ n3_ n4_ n5_ n6_
  have hHeld := trivial
  refine norm_ (a' := ?_) ?_ ?_
  rotate_left
  · simp only [putAll, Act.put, List.setIfInBounds_toArray, List.set_cons_zero, List.set_cons_succ]
    rfl
  refine pu 7 6 (bt 8 255) HT_.out ?_
  refine done_ (done_of HT_.out (by kernel_rfl)) ?_
  obtain ⟨Ao20, co20, eo20⟩ := Kd.R_slice HO222.out
  subst eo20
  try go_wp2
  go_loopg [29] k (fun kq v29 w' => ∃ (x5_1 : List Int) (x29_1 : Int), v29 = .int .i64 x29_1 ∧ Aside0 (dom_Nearest.l0 kq t211 t217 x5_1 y223 (y220.length : Int) x29_1 = some r) ∧ Aside0 (kq ≤ k) ∧ Aside0 (Kd.R (Kd.int .i64) 3 w' w.heap.size (fun k_ => some k_ ≠ ((.slice Ao20 y220.length co20) : Value).ownBlock ∧ some k_ ≠ (v224 : Value).ownBlock) v212 t211) ∧ Aside0 (Kd.S (Kd.slice 3 (Kd.int .i64)) 22 w' w.heap.size (fun k_ => some k_ ≠ (v212 : Value).ownBlock ∧ some k_ ≠ ((.slice Ao20 y220.length co20) : Value).ownBlock ∧ some k_ ≠ (v224 : Value).ownBlock) (.slice Ao14 t217.length co14) t217) ∧ Aside0 (Kd.R (Kd.int .i64) 3 w' w.heap.size (fun k_ => some k_ ≠ (v212 : Value).ownBlock ∧ some k_ ≠ (v224 : Value).ownBlock) (.slice Ao20 y220.length co20) x5_1) ∧ Aside0 (Kd.R (Kd.int .i64) 3 w' w.heap.size (fun k_ => some k_ ≠ (v212 : Value).ownBlock ∧ some k_ ≠ ((.slice Ao20 y220.length co20) : Value).ownBlock) v224 y223) ∧ Aside0 (w'.heap[gb210]? = some (.cells #[.int .i64 a0_0, .int .i64 a0_1, (.slice A0_2 l0_2.length c0_2), (.slice A0_3 l0_3.length c0_3)] 25 (0, 0))) ∧ Aside0 (Below w.heap.size w w'))
  case atStart => exact ⟨(y220), (0), (by first | rfl | (simp; done) | (simp [*]; done)), H', ⟨Nat.le_refl _⟩, ⟨ru HO213.out⟩, ⟨su (S_mono HO219.out (fun _ hk => ⟨hk.1, ⟨hk.2.2.1, hk.2.2.2⟩⟩))⟩, ⟨ru HO222.out⟩, ⟨ru HO225.out⟩, ⟨bu BK210.out⟩, ⟨lu HB.out⟩⟩
  clear H'
  try clear c2
  try clear p2
  try clear c3
  try clear c5
  try clear c5b0
  try clear c5b1
  try clear c6
  try clear c6b0
  try clear c6b1
  try clear c20
  obtain ⟨x5_1, x29_1, rfl, HA, HK1, HO_3, HO_4, HO_5, HO_6, BK210, HB⟩ := hrel
  have hl5_1 := (R_reads' HO_5.out).1
  rw [hl5_1] at HO_5
  (try simp only [hl5_1])
  (try simp only [hl5_1] at BK210)
  (try simp only [hl5_1] at HO_3)
  (try simp only [hl5_1] at HO_4)
  (try simp only [hl5_1] at HO_6)
  rcases gk with _ | k1
  · exact absurd HA.out (by simp [dom_Nearest.l0])
  have H := HA.out
  clear HA
  simp only [dom_Nearest.l0] at H
  by_cases c21 : x29_1 < (y220.length : Int)
  · rw [if_pos c21] at H
    have c21b0 : decide (x29_1 < (y220.length : Int)) = true := decide_eq_true c21
    have c21b0l := c21b0
    (try simp only [hl5_1] at c21b0l)
    clear c21
    by_cases c22 : 0 ≤ x29_1
    rotate_left
    · rw [if_neg c22] at H
      exact absurd H (by simp)
    rw [if_pos c22] at H
    have c22b0 : decide (0 ≤ x29_1) = true := decide_eq_true c22
    clear c22
    by_cases c23 : x29_1 < (x5_1.length : Int)
    rotate_left
    · rw [if_neg c23] at H
      exact absurd H (by simp)
    rw [if_pos c23] at H
    have c23b0 : decide (x29_1 < (x5_1.length : Int)) = true := decide_eq_true c23
    have c23b0l := c23b0
    (try simp only [hl5_1] at c23b0l)
    clear c23
    obtain ⟨y226, hy226⟩ : ∃ y_ : List Int, y_ = (x5_1.set (x29_1 : Int).toNat (-1)) := ⟨_, rfl⟩
    replace H : (dom_Nearest.l0 k1 t211 t217 y226 y223 (y220.length : Int) (wrap64 (x29_1 + 1))) = some r := by first | (rw [hy226]; with_reducible exact H) | (have H2_ := (Option.bind_some _ _).symm.trans H; rw [hy226]; with_reducible exact H2_) | exact H
    have Ny226 := Aside0.mk hy226
    clear hy226
    have H' := Aside0.mk H
    clear H
    have p24 : 0 ≤ (x29_1 : Int) := of_decide_eq_true (by with_reducible assumption)
    have q24 : (x29_1 : Int) < ((x5_1.length : Int) : Int) := of_decide_eq_true (by with_reducible assumption)
    obtain ⟨go24, co24, eo24, gb24, gl24, cl24, HG24⟩ := Kd.R_form HO_5.out (by omega)
    (first | cases eo24 | (injection eo24 with ea_ en_ ec_; (first | subst ea_ | (injection ea_ with ea_; subst ea_)); subst ec_; clear en_))
    have GB24 := Aside0.mk gb24
    have GG24 := Aside0.mk HG24
    clear gb24 gl24 HG24
    obtain ⟨hx24_0, hf24_0⟩ := Kd.R_celln 0 HO_5.out (x29_1 : Int) p24 q24
    replace p24 := eq_true p24
    replace q24 := eq_true q24
    have HP25 := Kd.R_putg HO_5.out (x29_1 : Int) (-1)
    go_wp2_with (first | ((with_reducible refine gate_store (t := 3) (p := 34) rfl ?_); refine store_event (t := 3) (p := 34) (v := ?vo_w26) (w1 := (wr.setCell ⟨go24, (x29_1 : Int).toNat, none⟩ (.int .i64 (-1)))) ?hg ?ho ?hn ?hr ?_; (case ho => rfl); (case hg => rfl); (case hn => rfl); (case hr => first | (go_simp; done) | (go_simp; rfl)); intro w26 hw; have hg : wr.grownBy w26 (some go24) := (by rw [hw]; exact HP25.2); have hp_ : Kd.R (Kd.int .i64) 3 w26 w.heap.size (fun k_ => some k_ ≠ (v212 : Value).ownBlock ∧ some k_ ≠ (v224 : Value).ownBlock) (.slice (some ⟨go24, 0, none⟩) x5_1.length co20) y226 := (by rw [hw, Ny226.out]; exact HP25.1); clear HP25; have n0_ := Aside0.mk (Kd.R_after (v := (.slice (some ⟨go24, 0, none⟩) x5_1.length co20)) (v1 := (.slice (some ⟨go24, 0, none⟩) x5_1.length co20)) (ok := (fun k_ => some k_ ≠ (v224 : Value).ownBlock)) (ru (R_mono HO_3.out (fun _ hk => ⟨hk.2, hk.1⟩))) hg (.inl rfl)); have n1_ := Aside0.mk (Kd.S_after (v := (.slice (some ⟨go24, 0, none⟩) x5_1.length co20)) (v1 := (.slice (some ⟨go24, 0, none⟩) x5_1.length co20)) (ok := (fun k_ => some k_ ≠ (v212 : Value).ownBlock ∧ some k_ ≠ (v224 : Value).ownBlock)) (su (S_mono HO_4.out (fun _ hk => ⟨⟨hk.1, hk.2.2⟩, hk.2.1⟩))) hg (.inl rfl)); have n2_ := Aside0.mk (hp_); have n3_ := Aside0.mk (Kd.R_after (v := (.slice (some ⟨go24, 0, none⟩) x5_1.length co20)) (v1 := (.slice (some ⟨go24, 0, none⟩) x5_1.length co20)) (ok := (fun k_ => some k_ ≠ (v212 : Value).ownBlock)) (ru HO_6.out) hg (.inl rfl)); have n4_ := Aside0.mk (blk_grown (bu BK210.out) hg (Kd.R_ne HO_5.out BK210.out (by decide))); have n5_ := Aside0.mk ((by rw [hw]; exact below_set (HB.out) GB24.out : Below w.heap.size w w26)); clear HO_3; clear HO_4; clear HO_5; clear HO_6; clear BK210; clear HB; have HO_3 := n0_; have HO_4 := n1_; have HO_5 := n2_; have HO_6 := n3_; have BK210 := n4_; have HB := n5_; clear n0_ n1_ n2_ n3_ n4_ n5_; clear hg hw hp_))
    (try simp only [← hl5_1])
    go_roundg k1
    case measure => have := HK1.out; omega
    case rel => exact ⟨(y226), (wrap64 (x29_1 + 1)), (by first | rfl | (simp; done) | (simp [*]; done)), H', ⟨by have := HK1.out; omega⟩, ⟨by (try simp only [hl5_1]); (with_reducible repeat (first | apply R_alloc | apply R_drewN | apply R_drew)); exact R_mono HO_3.out (fun _ hk => ⟨hk.2, hk.1⟩)⟩, ⟨by (try simp only [hl5_1]); (with_reducible repeat (first | apply S_alloc | apply S_drewN | apply S_drew)); exact S_mono HO_4.out (fun _ hk => ⟨hk.1.1, ⟨hk.2, hk.1.2⟩⟩)⟩, ⟨by (try simp only [hl5_1]); (with_reducible repeat (first | apply R_alloc | apply R_drewN | apply R_drew)); exact HO_5.out⟩, ⟨by (try simp only [hl5_1]); (with_reducible repeat (first | apply R_alloc | apply R_drewN | apply R_drew)); exact HO_6.out⟩, ⟨by (try simp only [hl5_1]); (with_reducible repeat (first | refine blk_drewN ?_ _ | refine blk_drew ?_ | refine blk_alloc ?_ _)); exact BK210.out⟩, ⟨lu HB.out⟩⟩
  rw [if_neg c21] at H
  have c21b0 : decide (x29_1 < (y220.length : Int)) = false := decide_eq_false c21
  (try simp only [hl5_1] at c21b0)
  clear c21
  have H' := Aside0.mk H
  clear H
  obtain ⟨Ao27, co27, eo27⟩ := Kd.R_slice HO_3.out
  subst eo27
  go_wp2
  go_loopg [38] k1 (fun kq v38 w' => ∃ (x6_2 : List Int) (x38_2 : Int), v38 = .int .i64 x38_2 ∧ Aside0 (dom_Nearest.l1 kq t211 t217 x5_1 x6_2 t211 (t211.length : Int) x38_2 = some r) ∧ Aside0 (kq ≤ k1) ∧ Aside0 (Kd.R (Kd.int .i64) 3 w' w.heap.size (fun k_ => some k_ ≠ ((.slice Ao20 x5_1.length co20) : Value).ownBlock ∧ some k_ ≠ (v224 : Value).ownBlock) (.slice Ao27 t211.length co27) t211) ∧ Aside0 (Kd.S (Kd.slice 3 (Kd.int .i64)) 22 w' w.heap.size (fun k_ => some k_ ≠ ((.slice Ao27 t211.length co27) : Value).ownBlock ∧ some k_ ≠ ((.slice Ao20 x5_1.length co20) : Value).ownBlock ∧ some k_ ≠ (v224 : Value).ownBlock ∧ some k_ ≠ ((.slice Ao27 t211.length co27) : Value).ownBlock) (.slice Ao14 t217.length co14) t217) ∧ Aside0 (Kd.R (Kd.int .i64) 3 w' w.heap.size (fun k_ => some k_ ≠ ((.slice Ao27 t211.length co27) : Value).ownBlock ∧ some k_ ≠ (v224 : Value).ownBlock ∧ some k_ ≠ ((.slice Ao27 t211.length co27) : Value).ownBlock) (.slice Ao20 x5_1.length co20) x5_1) ∧ Aside0 (Kd.R (Kd.int .i64) 3 w' w.heap.size (fun k_ => some k_ ≠ ((.slice Ao27 t211.length co27) : Value).ownBlock ∧ some k_ ≠ ((.slice Ao20 x5_1.length co20) : Value).ownBlock ∧ some k_ ≠ ((.slice Ao27 t211.length co27) : Value).ownBlock) v224 x6_2) ∧ Aside0 (Kd.R (Kd.int .i64) 3 w' w.heap.size (fun k_ => some k_ ≠ ((.slice Ao20 x5_1.length co20) : Value).ownBlock ∧ some k_ ≠ (v224 : Value).ownBlock) (.slice Ao27 t211.length co27) t211) ∧ Aside0 (w'.heap[gb210]? = some (.cells #[.int .i64 a0_0, .int .i64 a0_1, (.slice A0_2 l0_2.length c0_2), (.slice A0_3 l0_3.length c0_3)] 25 (0, 0))) ∧ Aside0 (Below w.heap.size w w'))
  case atStart => exact ⟨(y223), (0), (by first | rfl | (simp; done) | (simp [*]; done)), H', ⟨Nat.le_refl _⟩, ⟨by (try simp only [hl5_1]); (with_reducible repeat (first | apply R_alloc | apply R_drewN | apply R_drew)); exact HO_3.out⟩, ⟨by (try simp only [hl5_1]); (with_reducible repeat (first | apply S_alloc | apply S_drewN | apply S_drew)); exact S_mono HO_4.out (fun _ hk => ⟨hk.1, ⟨hk.2.1, ⟨hk.2.2, hk.1⟩⟩⟩)⟩, ⟨by (try simp only [hl5_1]); (with_reducible repeat (first | apply R_alloc | apply R_drewN | apply R_drew)); exact R_mono HO_5.out (fun _ hk => ⟨hk.1, ⟨hk.2, hk.1⟩⟩)⟩, ⟨by (try simp only [hl5_1]); (with_reducible repeat (first | apply R_alloc | apply R_drewN | apply R_drew)); exact R_mono HO_6.out (fun _ hk => ⟨hk.1, ⟨hk.2, hk.1⟩⟩)⟩, ⟨by (try simp only [hl5_1]); (with_reducible repeat (first | apply R_alloc | apply R_drewN | apply R_drew)); exact HO_3.out⟩, ⟨by (try simp only [hl5_1]); (with_reducible repeat (first | refine blk_drewN ?_ _ | refine blk_drew ?_ | refine blk_alloc ?_ _)); exact BK210.out⟩, ⟨lu HB.out⟩⟩
  clear H'
  try clear c2
  try clear p2
  try clear q2
  try clear hx2
  try clear hf2
  try clear c3
  try clear c5
  try clear c5b0
  try clear c5b1
  try clear c6
  try clear c6b0
  try clear c6b1
  try clear p6
  try clear c20
  try clear c21
  try clear c21b0
  try clear c22
  try clear c22b0
  try clear c23
  try clear c23b0
  try clear p24
  try clear q24
  try clear hx24
  try clear hf24
  try clear hx24_0
  try clear p2
  try clear p24
  try clear q24
  obtain ⟨x6_2, x38_2, rfl, HA, HK2, HO_3, HO_4, HO_5, HO_6, HO_36, BK210, HB⟩ := hrel
  rcases gk with _ | k2
  · exact absurd HA.out (by simp [dom_Nearest.l1])
  have H := HA.out
  clear HA
  simp only [dom_Nearest.l1] at H
  by_cases c28 : x38_2 < (t211.length : Int)
  · rw [if_pos c28] at H
    have c28b0 : decide (x38_2 < (t211.length : Int)) = true := decide_eq_true c28
    have c28b0l := c28b0
    (try simp only [hl5_1] at c28b0l)
    clear c28
    by_cases c29 : 0 ≤ x38_2
    rotate_left
    · rw [if_neg c29] at H
      exact absurd H (by simp)
    rw [if_pos c29] at H
    have c29b0 : decide (0 ≤ x38_2) = true := decide_eq_true c29
    clear c29
    by_cases c30 : x38_2 < (t211.length : Int)
    rotate_left
    · rw [if_neg c30] at H
      exact absurd H (by simp)
    rw [if_pos c30] at H
    have c30b0 : decide (x38_2 < (t211.length : Int)) = true := decide_eq_true c30
    have c30b0l := c30b0
    (try simp only [hl5_1] at c30b0l)
    clear c30
    by_cases c31 : 0 ≤ (rd t211 x38_2)
    rotate_left
    · rw [if_neg c31] at H
      exact absurd H (by simp)
    rw [if_pos c31] at H
    have c31b0 : decide (0 ≤ (rd t211 x38_2)) = true := decide_eq_true c31
    clear c31
    by_cases c32 : (rd t211 x38_2) < (x6_2.length : Int)
    rotate_left
    · rw [if_neg c32] at H
      exact absurd H (by simp)
    rw [if_pos c32] at H
    have c32b0 : decide ((rd t211 x38_2) < (x6_2.length : Int)) = true := decide_eq_true c32
    have c32b0l := c32b0
    (try simp only [hl5_1] at c32b0l)
    clear c32
    obtain ⟨y228, hy228⟩ : ∃ y_ : List Int, y_ = (x6_2.set ((rd t211 x38_2) : Int).toNat x38_2) := ⟨_, rfl⟩
    replace H : (dom_Nearest.l1 k2 t211 t217 x5_1 y228 t211 (t211.length : Int) (wrap64 (x38_2 + 1))) = some r := by first | (rw [hy228]; with_reducible exact H) | (have H2_ := (Option.bind_some _ _).symm.trans H; rw [hy228]; with_reducible exact H2_) | exact H
    have Ny228 := Aside0.mk hy228
    clear hy228
    have H' := Aside0.mk H
    clear H
    have p227 : 0 ≤ (x38_2 : Int) := of_decide_eq_true (by with_reducible assumption)
    have q227 : x38_2 < (t211.length : Int) := of_decide_eq_true (by with_reducible assumption)
    obtain ⟨ad227, e227, hx227_0⟩ := Kd.at_int (R_reads' HO_36.out).2.2 x38_2 p227 q227
    cases e227
    replace p227 := eq_true p227
    replace q227 := eq_true q227
    have p33 : 0 ≤ ((rd t211 x38_2) : Int) := of_decide_eq_true (by with_reducible assumption)
    have q33 : ((rd t211 x38_2) : Int) < ((x6_2.length : Int) : Int) := of_decide_eq_true (by with_reducible assumption)
    obtain ⟨go33, co33, eo33, gb33, gl33, cl33, HG33⟩ := Kd.R_form HO_6.out (by omega)
    (first | cases eo33 | (injection eo33 with ea_ en_ ec_; (first | subst ea_ | (injection ea_ with ea_; subst ea_)); subst ec_; clear en_))
    have GB33 := Aside0.mk gb33
    have GG33 := Aside0.mk HG33
    clear gb33 gl33 HG33
    obtain ⟨hx33_0, hf33_0⟩ := Kd.R_celln 0 HO_6.out ((rd t211 x38_2) : Int) p33 q33
    replace p33 := eq_true p33
    replace q33 := eq_true q33
    have HP34 := Kd.R_putg HO_6.out ((rd t211 x38_2) : Int) x38_2
    go_wp2_with (first | ((with_reducible refine gate_store (t := 3) (p := 46) rfl ?_); refine store_event (t := 3) (p := 46) (v := ?vo_w35) (w1 := (wr.setCell ⟨go33, ((rd t211 x38_2) : Int).toNat, none⟩ (.int .i64 x38_2))) ?hg ?ho ?hn ?hr ?_; (case ho => rfl); (case hg => rfl); (case hn => rfl); (case hr => first | (go_simp; done) | (go_simp; rfl)); intro w35 hw; have hg : wr.grownBy w35 (some go33) := (by rw [hw]; exact HP34.2); have hp_ : Kd.R (Kd.int .i64) 3 w35 w.heap.size (fun k_ => some k_ ≠ (.slice (some ad227) t211.length co27 : Value).ownBlock ∧ some k_ ≠ (.slice Ao20 x5_1.length co20 : Value).ownBlock ∧ some k_ ≠ (.slice (some ad227) t211.length co27 : Value).ownBlock) (.slice (some ⟨go33, 0, none⟩) x6_2.length co33) y228 := (by rw [hw, Ny228.out]; exact HP34.1); clear HP34; have n0_ := Aside0.mk (Kd.R_after (v := (.slice (some ⟨go33, 0, none⟩) x6_2.length co33)) (v1 := (.slice (some ⟨go33, 0, none⟩) x6_2.length co33)) (ok := (fun k_ => some k_ ≠ (.slice Ao20 x5_1.length co20 : Value).ownBlock)) (ru HO_3.out) hg (.inl rfl)); have n1_ := Aside0.mk (Kd.S_after (v := (.slice (some ⟨go33, 0, none⟩) x6_2.length co33)) (v1 := (.slice (some ⟨go33, 0, none⟩) x6_2.length co33)) (ok := (fun k_ => some k_ ≠ (.slice (some ad227) t211.length co27 : Value).ownBlock ∧ some k_ ≠ (.slice Ao20 x5_1.length co20 : Value).ownBlock ∧ some k_ ≠ (.slice (some ad227) t211.length co27 : Value).ownBlock)) (su (S_mono HO_4.out (fun _ hk => ⟨⟨hk.1, ⟨hk.2.1, hk.2.2.2⟩⟩, hk.2.2.1⟩))) hg (.inl rfl)); have n2_ := Aside0.mk (Kd.R_after (v := (.slice (some ⟨go33, 0, none⟩) x6_2.length co33)) (v1 := (.slice (some ⟨go33, 0, none⟩) x6_2.length co33)) (ok := (fun k_ => some k_ ≠ (.slice (some ad227) t211.length co27 : Value).ownBlock ∧ some k_ ≠ (.slice (some ad227) t211.length co27 : Value).ownBlock)) (ru (R_mono HO_5.out (fun _ hk => ⟨⟨hk.1, hk.2.2⟩, hk.2.1⟩))) hg (.inl rfl)); have n3_ := Aside0.mk (hp_); have n4_ := Aside0.mk (Kd.R_after (v := (.slice (some ⟨go33, 0, none⟩) x6_2.length co33)) (v1 := (.slice (some ⟨go33, 0, none⟩) x6_2.length co33)) (ok := (fun k_ => some k_ ≠ (.slice Ao20 x5_1.length co20 : Value).ownBlock)) (ru HO_36.out) hg (.inl rfl)); have n5_ := Aside0.mk (blk_grown (bu BK210.out) hg (Kd.R_ne HO_6.out BK210.out (by decide))); have n6_ := Aside0.mk ((by rw [hw]; exact below_set (HB.out) GB33.out : Below w.heap.size w w35)); clear HO_3; clear HO_4; clear HO_5; clear HO_6; clear HO_36; clear BK210; clear HB; have HO_3 := n0_; have HO_4 := n1_; have HO_5 := n2_; have HO_6 := n3_; have HO_36 := n4_; have BK210 := n5_; have HB := n6_; clear n0_ n1_ n2_ n3_ n4_ n5_ n6_; clear hg hw hp_))
    go_roundg k2
    case measure => have := HK1.out; have := HK2.out; omega
    case rel => exact ⟨(y228), (wrap64 (x38_2 + 1)), (by first | rfl | (simp; done) | (simp [*]; done)), H', ⟨by have := HK1.out; have := HK2.out; omega⟩, ⟨by (try simp only [hl5_1]); (with_reducible repeat (first | apply R_alloc | apply R_drewN | apply R_drew)); exact HO_3.out⟩, ⟨by (try simp only [hl5_1]); (with_reducible repeat (first | apply S_alloc | apply S_drewN | apply S_drew)); exact S_mono HO_4.out (fun _ hk => ⟨hk.1.1, ⟨hk.1.2.1, ⟨hk.2, hk.1.2.2⟩⟩⟩)⟩, ⟨by (try simp only [hl5_1]); (with_reducible repeat (first | apply R_alloc | apply R_drewN | apply R_drew)); exact R_mono HO_5.out (fun _ hk => ⟨hk.1.1, ⟨hk.2, hk.1.2⟩⟩)⟩, ⟨by (try simp only [hl5_1]); (with_reducible repeat (first | apply R_alloc | apply R_drewN | apply R_drew)); exact HO_6.out⟩, ⟨by (try simp only [hl5_1]); (with_reducible repeat (first | apply R_alloc | apply R_drewN | apply R_drew)); exact HO_36.out⟩, ⟨by (try simp only [hl5_1]); (with_reducible repeat (first | refine blk_drewN ?_ _ | refine blk_drew ?_ | refine blk_alloc ?_ _)); exact BK210.out⟩, ⟨lu HB.out⟩⟩
  rw [if_neg c28] at H
  have c28b0 : decide (x38_2 < (t211.length : Int)) = false := decide_eq_false c28
  (try simp only [hl5_1] at c28b0)
  clear c28
  by_cases c36 : (t211.length : Int) = 0
  · rw [if_pos c36] at H
    have c36b0 : ((t211.length : Int) == 0) = true := beq_iff_eq.mpr c36
    have c36b1 : ((t211.length : Int) != 0) = false := bne_eq_false_iff_eq.mpr c36
    clear c36
    obtain rfl := Option.some.inj H
    go_wp2
    go_ret
    exact ⟨_, by first | rfl | (simp [errW_none, errW_some] <;> rfl) | (simp [*, errW_none, errW_some] <;> rfl), ru (R_mono HO_5.out (fun _ hk => trivial)), lu HB.out⟩
  rw [if_neg c36] at H
  have c36b0 : ((t211.length : Int) == 0) = false := beq_eq_false_iff_ne.mpr c36
  have c36b1 : ((t211.length : Int) != 0) = true := bne_iff_ne.mpr c36
  have c36b2 : ¬ (t211 = []) := fun h_ => c36 (by rw [h_]; rfl)
  by_cases c37 : 0 < (x5_1.length : Int)
  rotate_left
  · rw [if_neg c37] at H
    exact absurd H (by simp)
  rw [if_pos c37] at H
  have c37b0 : decide (0 < (x5_1.length : Int)) = true := decide_eq_true c37
  have c37b0l := c37b0
  (try simp only [hl5_1] at c37b0l)
  have c37b1 : decide (0 < x5_1.length) = true := decide_eq_true (by omega)
  clear c37
  obtain ⟨y229, hy229⟩ : ∃ y_ : List Int, y_ = (x5_1.set (0 : Int).toNat 0) := ⟨_, rfl⟩
  replace H : (dom_Nearest.l2 k2 t211 t217 y229 x6_2 true) = some r := by first | (rw [hy229]; with_reducible exact H) | (have H2_ := (Option.bind_some _ _).symm.trans H; rw [hy229]; with_reducible exact H2_) | exact H
  have Ny229 := Aside0.mk hy229
  clear hy229
  have H' := Aside0.mk H
  clear H
  have p38 : 0 ≤ (0 : Int) := (by omega)
  have q38 : (0 : Int) < ((x5_1.length : Int) : Int) := of_decide_eq_true (by with_reducible assumption)
  have qi38 : (0 < x5_1.length) = True := eq_true (by omega)
  obtain ⟨go38, co38, eo38, gb38, gl38, cl38, HG38⟩ := Kd.R_form HO_5.out (by omega)
  (first | cases eo38 | (injection eo38 with ea_ en_ ec_; (first | subst ea_ | (injection ea_ with ea_; subst ea_)); subst ec_; clear en_))
  have GB38 := Aside0.mk gb38
  have GG38 := Aside0.mk HG38
  clear gb38 gl38 HG38
  obtain ⟨hx38_0, hf38_0⟩ := Kd.R_celln 0 HO_5.out (0 : Int) p38 q38
  (try rw [show ((0 : Int)).toNat = 0 from rfl] at hx38_0)
  (try simp only [Nat.reduceMul, Nat.zero_mul, Nat.zero_add, Nat.reduceAdd] at hx38_0)
  (try rw [show ((0 : Int)).toNat = 0 from rfl] at hf38_0)
  (try simp only [Nat.reduceMul, Nat.zero_mul, Nat.zero_add, Nat.reduceAdd] at hf38_0)
  replace p38 := eq_true p38
  replace q38 := eq_true q38
  have HP39 := Kd.R_putg HO_5.out (0 : Int) 0
  go_wp2_with (first | ((with_reducible refine gate_store (t := 3) (p := 53) rfl ?_); refine store_event (t := 3) (p := 53) (v := ?vo_w40) (w1 := (wr.setCell ⟨go38, (0 : Int).toNat, none⟩ (.int .i64 0))) ?hg ?ho ?hn ?hr ?_; (case ho => rfl); (case hg => rfl); (case hn => rfl); (case hr => first | (go_simp; done) | (go_simp; rfl)); intro w40 hw; have hg : wr.grownBy w40 (some go38) := (by rw [hw]; exact HP39.2); have hp_ : Kd.R (Kd.int .i64) 3 w40 w.heap.size (fun k_ => some k_ ≠ (.slice Ao27 t211.length co27 : Value).ownBlock ∧ some k_ ≠ (v224 : Value).ownBlock ∧ some k_ ≠ (.slice Ao27 t211.length co27 : Value).ownBlock) (.slice (some ⟨go38, 0, none⟩) x5_1.length co20) y229 := (by rw [hw, Ny229.out]; exact HP39.1); clear HP39; have n0_ := Aside0.mk (Kd.R_after (v := (.slice (some ⟨go38, 0, none⟩) x5_1.length co20)) (v1 := (.slice (some ⟨go38, 0, none⟩) x5_1.length co20)) (ok := (fun k_ => some k_ ≠ (v224 : Value).ownBlock)) (ru (R_mono HO_3.out (fun _ hk => ⟨hk.2, hk.1⟩))) hg (.inl rfl)); have n1_ := Aside0.mk (Kd.S_after (v := (.slice (some ⟨go38, 0, none⟩) x5_1.length co20)) (v1 := (.slice (some ⟨go38, 0, none⟩) x5_1.length co20)) (ok := (fun k_ => some k_ ≠ (.slice Ao27 t211.length co27 : Value).ownBlock ∧ some k_ ≠ (v224 : Value).ownBlock ∧ some k_ ≠ (.slice Ao27 t211.length co27 : Value).ownBlock)) (su (S_mono HO_4.out (fun _ hk => ⟨⟨hk.1, ⟨hk.2.2.1, hk.2.2.2⟩⟩, hk.2.1⟩))) hg (.inl rfl)); have n2_ := Aside0.mk (hp_); have n3_ := Aside0.mk (Kd.R_after (v := (.slice (some ⟨go38, 0, none⟩) x5_1.length co20)) (v1 := (.slice (some ⟨go38, 0, none⟩) x5_1.length co20)) (ok := (fun k_ => some k_ ≠ (.slice Ao27 t211.length co27 : Value).ownBlock ∧ some k_ ≠ (.slice Ao27 t211.length co27 : Value).ownBlock)) (ru (R_mono HO_6.out (fun _ hk => ⟨⟨hk.1, hk.2.2⟩, hk.2.1⟩))) hg (.inl rfl)); have n4_ := Aside0.mk (Kd.R_after (v := (.slice (some ⟨go38, 0, none⟩) x5_1.length co20)) (v1 := (.slice (some ⟨go38, 0, none⟩) x5_1.length co20)) (ok := (fun k_ => some k_ ≠ (v224 : Value).ownBlock)) (ru (R_mono HO_36.out (fun _ hk => ⟨hk.2, hk.1⟩))) hg (.inl rfl)); have n5_ := Aside0.mk (blk_grown (bu BK210.out) hg (Kd.R_ne HO_5.out BK210.out (by decide))); have n6_ := Aside0.mk ((by rw [hw]; exact below_set (HB.out) GB38.out : Below w.heap.size w w40)); clear HO_3; clear HO_4; clear HO_5; clear HO_6; clear HO_36; clear BK210; clear HB; have HO_3 := n0_; have HO_4 := n1_; have HO_5 := n2_; have HO_6 := n3_; have HO_36 := n4_; have BK210 := n5_; have HB := n6_; clear n0_ n1_ n2_ n3_ n4_ n5_ n6_; clear hg hw hp_))
  go_loopg [10] k2 (fun kq v10 w' => ∃ (x5_3 : List Int) (x10_3 : Bool), v10 = .bool x10_3 ∧ Aside0 (dom_Nearest.l2 kq t211 t217 x5_3 x6_2 x10_3 = some r) ∧ Aside0 (kq ≤ k2) ∧ Aside0 (Kd.R (Kd.int .i64) 3 w' w.heap.size (fun k_ => some k_ ≠ ((.slice (some ⟨go38, 0, none⟩) x5_1.length co20) : Value).ownBlock ∧ some k_ ≠ (v224 : Value).ownBlock) (.slice Ao27 t211.length co27) t211) ∧ Aside0 (Kd.S (Kd.slice 3 (Kd.int .i64)) 22 w' w.heap.size (fun k_ => some k_ ≠ ((.slice Ao27 t211.length co27) : Value).ownBlock ∧ some k_ ≠ ((.slice (some ⟨go38, 0, none⟩) x5_1.length co20) : Value).ownBlock ∧ some k_ ≠ (v224 : Value).ownBlock) (.slice Ao14 t217.length co14) t217) ∧ Aside0 (Kd.R (Kd.int .i64) 3 w' w.heap.size (fun k_ => some k_ ≠ ((.slice Ao27 t211.length co27) : Value).ownBlock ∧ some k_ ≠ (v224 : Value).ownBlock) (.slice (some ⟨go38, 0, none⟩) x5_1.length co20) x5_3) ∧ Aside0 (Kd.R (Kd.int .i64) 3 w' w.heap.size (fun k_ => some k_ ≠ ((.slice Ao27 t211.length co27) : Value).ownBlock ∧ some k_ ≠ ((.slice (some ⟨go38, 0, none⟩) x5_1.length co20) : Value).ownBlock) v224 x6_2) ∧ Aside0 (w'.heap[gb210]? = some (.cells #[.int .i64 a0_0, .int .i64 a0_1, (.slice A0_2 l0_2.length c0_2), (.slice A0_3 l0_3.length c0_3)] 25 (0, 0))) ∧ Aside0 (Below w.heap.size w w'))
  case atStart => exact ⟨(y229), (true), (by first | rfl | (simp; done) | (simp [*]; done)), H', ⟨Nat.le_refl _⟩, ⟨by (try simp only [hl5_1]); (with_reducible repeat (first | apply R_alloc | apply R_drewN | apply R_drew)); exact R_mono HO_3.out (fun _ hk => ⟨hk.2, hk.1⟩)⟩, ⟨by (try simp only [hl5_1]); (with_reducible repeat (first | apply S_alloc | apply S_drewN | apply S_drew)); exact S_mono HO_4.out (fun _ hk => ⟨hk.1.1, ⟨hk.2, hk.1.2.1⟩⟩)⟩, ⟨by (try simp only [hl5_1]); (with_reducible repeat (first | apply R_alloc | apply R_drewN | apply R_drew)); exact R_mono HO_5.out (fun _ hk => ⟨hk.1, hk.2.1⟩)⟩, ⟨by (try simp only [hl5_1]); (with_reducible repeat (first | apply R_alloc | apply R_drewN | apply R_drew)); exact R_mono HO_6.out (fun _ hk => ⟨hk.1.1, hk.2⟩)⟩, ⟨by (try simp only [hl5_1]); (with_reducible repeat (first | refine blk_drewN ?_ _ | refine blk_drew ?_ | refine blk_alloc ?_ _)); exact BK210.out⟩, ⟨lu HB.out⟩⟩
  clear H'
  try clear c2
  try clear p2
  try clear q2
  try clear hx2
  try clear hf2
  try clear c3
  try clear p3
  try clear q3
  try clear hx3
  try clear qi3
  try clear hf3
  try clear c5
  try clear c5b0
  try clear c5b1
  try clear c6
  try clear c6b0
  try clear c6b1
  try clear p6
  try clear c20
  try clear c21
  try clear c21b0
  try clear c22
  try clear c22b0
  try clear p22
  try clear q22
  try clear hx22
  try clear c23
  try clear c23b0
  try clear p24
  try clear q24
  try clear hx24
  try clear hf24
  try clear c28
  try clear c28b0
  try clear c29
  try clear c29b0
  try clear c30
  try clear c30b0
  try clear c31
  try clear c31b0
  try clear c32
  try clear c32b0
  try clear p33
  try clear q33
  try clear hx33
  try clear hf33
  try clear c34
  try clear c35
  try clear c36
  try clear c36b0
  try clear c36b1
  try clear c36b2
  try clear c37
  try clear c37b0
  try clear c37b1
  try clear p38
  try clear q38
  try clear hx38
  try clear qi38
  try clear hf38
  try clear hx227_0
  try clear hx24_0
  try clear hx33_0
  try clear hx38_0
  try clear p2
  try clear p227
  try clear p24
  try clear p33
  try clear p38
  try clear p6
  try clear q2
  try clear q227
  try clear q24
  try clear q33
  try clear q38
  obtain ⟨x5_3, x10_3, rfl, HA, HK3, HO_3, HO_4, HO_5, HO_6, BK210, HB⟩ := hrel
  have hl5_3 := (R_reads' HO_5.out).1
  rw [hl5_3] at HO_5
  (try simp only [hl5_3])
  (try simp only [hl5_3] at BK210)
  (try simp only [hl5_3] at HO_3)
  (try simp only [hl5_3] at HO_4)
  (try simp only [hl5_3] at HO_6)
  rcases gk with _ | k3
  · exact absurd HA.out (by simp [dom_Nearest.l2])
  have H := HA.out
  clear HA
  simp only [dom_Nearest.l2] at H
  by_cases c41 : x10_3 = true
  · subst c41
    have H1 : (if 1 ≤ (t211.length : Int) then ((some (t211.drop 1 : List Int)).bind fun y231 => (dom_Nearest.l3 k3 t211 t217 x5_3 x6_2 false y231 (y231.length : Int) 0)) else (none)) = some r := by rw [if_pos rfl] at H; exact H
    clear H
    have H := H1
    clear H1
    by_cases c42 : 1 ≤ (t211.length : Int)
    rotate_left
    · rw [if_neg c42] at H
      exact absurd H (by simp)
    rw [if_pos c42] at H
    have c42b0 := eq_true c42
    have c42b1 : decide (1 ≤ (t211.length : Int)) = true := decide_eq_true c42
    clear c42
    obtain ⟨y231, hy231⟩ : ∃ y_ : List Int, y_ = (t211.drop 1) := ⟨_, rfl⟩
    replace H : (dom_Nearest.l3 k3 t211 t217 x5_3 x6_2 false y231 (y231.length : Int) 0) = some r := by first | (rw [hy231]; with_reducible exact H) | (have H2_ := (Option.bind_some _ _).symm.trans H; rw [hy231]; with_reducible exact H2_) | exact H
    have Ny231 := Aside0.mk hy231
    clear hy231
    have H' := Aside0.mk H
    clear H
    have q43 : (1 : Int) ≤ ((t211.length : Int) : Int) := of_decide_eq_true (by with_reducible assumption)
    obtain ⟨i043, hi043, _, hsz43, _⟩ := info_parts info3
    have hroom43 : t211.length ≤ co27 := (R_reads' HO_3.out).2.1
    have hC43 : Kd.C (Kd.int .i64) _ Ao27 t211.length t211 := (R_reads' HO_3.out).2.2
    have hcut43 := cut_from (P := Try.prog) 22 3 .i64 Try.underlying22 hi043 1 hsz43 Ao27 t211.length co27 1 (by omega) q43
    have hr43 := Kd.C_drop (m := (1 : Int).toNat) (c := co27) hC43 (by omega) hroom43
    obtain ⟨A43, hA43⟩ : ∃ A1, A1 = (if co27 = (1 : Int).toNat then Ao27 else (Ao27 : Option Addr).map (·.add ((1 : Int).toNat * 1))) := ⟨_, rfl⟩
    obtain ⟨c43, hc43⟩ : ∃ c1, c1 = co27 - (1 : Int).toNat := ⟨_, rfl⟩
    have hy43 : y231.length = t211.length - (1 : Int).toNat := (by rw [Ny231.out, List.length_drop] <;> omega)
    rw [show (t211).drop (1 : Int).toNat = y231 from Ny231.out.symm] at hr43
    replace hr43 : Kd.C (Kd.int .i64) _ A43 y231.length y231 := (by rw [hA43]; exact hr43)
    rw [← hy43, ← hA43, ← hc43] at hcut43
    have HR234 := Aside0.mk hr43
    have HC234 := Aside0.mk (show y231.length ≤ c43 from by rw [hy43, hc43]; exact Nat.sub_le_sub_right hroom43 _)
    clear hr43 hC43 hroom43 hi043 hsz43 hc43
    have KY43 := Aside0.mk hy43
    have KA43 := Aside0.mk hA43
    clear hy43 hA43
    have KL43 := Aside0.mk (show 1 ≤ t211.length from by omega)
    replace q43 := eq_true q43
    go_wp2
    go_loopg [10, 58] k3 (fun kq v10 v58 w' => ∃ (x5_4 : List Int) (x10_4 : Bool) (x58_4 : Int), v10 = .bool x10_4 ∧ v58 = .int .i64 x58_4 ∧ Aside0 (dom_Nearest.l3 kq t211 t217 x5_4 x6_2 x10_4 y231 (y231.length : Int) x58_4 = some r) ∧ Aside0 (kq ≤ k3) ∧ Aside0 (Kd.R (Kd.int .i64) 3 w' w.heap.size (fun k_ => some k_ ≠ ((.slice (some ⟨go38, 0, none⟩) x5_3.length co20) : Value).ownBlock ∧ some k_ ≠ (v224 : Value).ownBlock) (.slice Ao27 t211.length co27) t211) ∧ Aside0 (Kd.S (Kd.slice 3 (Kd.int .i64)) 22 w' w.heap.size (fun k_ => some k_ ≠ ((.slice Ao27 t211.length co27) : Value).ownBlock ∧ some k_ ≠ ((.slice (some ⟨go38, 0, none⟩) x5_3.length co20) : Value).ownBlock ∧ some k_ ≠ (v224 : Value).ownBlock) (.slice Ao14 t217.length co14) t217) ∧ Aside0 (Kd.R (Kd.int .i64) 3 w' w.heap.size (fun k_ => some k_ ≠ ((.slice Ao27 t211.length co27) : Value).ownBlock ∧ some k_ ≠ (v224 : Value).ownBlock) (.slice (some ⟨go38, 0, none⟩) x5_3.length co20) x5_4) ∧ Aside0 (Kd.R (Kd.int .i64) 3 w' w.heap.size (fun k_ => some k_ ≠ ((.slice Ao27 t211.length co27) : Value).ownBlock ∧ some k_ ≠ ((.slice (some ⟨go38, 0, none⟩) x5_3.length co20) : Value).ownBlock) v224 x6_2) ∧ Aside0 (w'.heap[gb210]? = some (.cells #[.int .i64 a0_0, .int .i64 a0_1, (.slice A0_2 l0_2.length c0_2), (.slice A0_3 l0_3.length c0_3)] 25 (0, 0))) ∧ Aside0 (Kd.C (Kd.int .i64) w' A43 y231.length y231) ∧ Aside0 (Below w.heap.size w w'))
    case atStart => exact ⟨(x5_3), (false), (0), (by first | rfl | (simp; done) | (simp [*]; done)), (by first | rfl | (simp; done) | (simp [*]; done)), H', ⟨Nat.le_refl _⟩, ⟨by (try simp only [hl5_1]); (try simp only [hl5_3]); (with_reducible repeat (first | apply R_alloc | apply R_drewN | apply R_drew)); exact HO_3.out⟩, ⟨by (try simp only [hl5_1]); (try simp only [hl5_3]); (with_reducible repeat (first | apply S_alloc | apply S_drewN | apply S_drew)); exact HO_4.out⟩, ⟨by (try simp only [hl5_1]); (try simp only [hl5_3]); (with_reducible repeat (first | apply R_alloc | apply R_drewN | apply R_drew)); exact HO_5.out⟩, ⟨by (try simp only [hl5_1]); (try simp only [hl5_3]); (with_reducible repeat (first | apply R_alloc | apply R_drewN | apply R_drew)); exact HO_6.out⟩, ⟨by (try simp only [hl5_1]); (try simp only [hl5_3]); (with_reducible repeat (first | refine blk_drewN ?_ _ | refine blk_drew ?_ | refine blk_alloc ?_ _)); exact BK210.out⟩, ⟨by repeat (first | (with_reducible exact HR234.out) | (with_reducible refine C_alloc ?_ _) | (with_reducible refine C_drewN ?_ _) | (with_reducible refine C_drew ?_) | exact HR234.out)⟩, ⟨lu HB.out⟩⟩
    clear H'
    try clear c1
    try clear c2
    try clear p2
    try clear q2
    try clear hx2
    try clear hf2
    try clear c3
    try clear p3
    try clear q3
    try clear hx3
    try clear qi3
    try clear hf3
    try clear c4
    try clear q4
    try clear c5
    try clear c5b0
    try clear c5b1
    try clear c6
    try clear c6b0
    try clear c6b1
    try clear p6
    try clear c20
    try clear c21
    try clear c21b0
    try clear c22
    try clear c22b0
    try clear p22
    try clear q22
    try clear hx22
    try clear c23
    try clear c23b0
    try clear p24
    try clear q24
    try clear hx24
    try clear hf24
    try clear c28
    try clear c28b0
    try clear c29
    try clear c29b0
    try clear c30
    try clear c30b0
    try clear c31
    try clear c31b0
    try clear c32
    try clear c32b0
    try clear p33
    try clear q33
    try clear hx33
    try clear hf33
    try clear c34
    try clear c35
    try clear c36
    try clear c36b0
    try clear c36b1
    try clear c36b2
    try clear c37
    try clear c37b0
    try clear c37b1
    try clear p38
    try clear q38
    try clear hx38
    try clear qi38
    try clear hf38
    try clear c41
    try clear c42
    try clear c42b0
    try clear c42b1
    try clear c43
    try clear q43
    try clear hx227_0
    try clear hx24_0
    try clear hx33_0
    try clear hx38_0
    try clear p2
    try clear p22
    try clear p227
    try clear p24
    try clear p3
    try clear p33
    try clear p38
    try clear p6
    try clear q2
    try clear q22
    try clear q227
    try clear q24
    try clear q3
    try clear q33
    try clear q38
    try clear q43
    obtain ⟨x5_4, x10_4, x58_4, rfl, rfl, HA, HK4, HO_3, HO_4, HO_5, HO_6, BK210, HR234, HB⟩ := hrel
    have hl5_4 := (R_reads' HO_5.out).1
    rw [hl5_4] at HO_5
    (try simp only [hl5_4])
    (try simp only [hl5_4] at BK210)
    (try simp only [hl5_4] at HO_3)
    (try simp only [hl5_4] at HO_4)
    (try simp only [hl5_4] at HO_6)
    rcases gk with _ | k4
    · exact absurd HA.out (by simp [dom_Nearest.l3])
    have H := HA.out
    clear HA
    simp only [dom_Nearest.l3] at H
    by_cases c44 : x58_4 < (y231.length : Int)
    · rw [if_pos c44] at H
      have c44b0 : decide (x58_4 < (y231.length : Int)) = true := decide_eq_true c44
      have c44b0l := c44b0
      (try simp only [hl5_1, hl5_3, hl5_4] at c44b0l)
      clear c44
      by_cases c45 : 0 ≤ x58_4
      rotate_left
      · rw [if_neg c45] at H
        exact absurd H (by simp)
      rw [if_pos c45] at H
      have c45b0 : decide (0 ≤ x58_4) = true := decide_eq_true c45
      clear c45
      by_cases c46 : x58_4 < (y231.length : Int)
      rotate_left
      · rw [if_neg c46] at H
        exact absurd H (by simp)
      rw [if_pos c46] at H
      have c46b0 : decide (x58_4 < (y231.length : Int)) = true := decide_eq_true c46
      have c46b0l := c46b0
      (try simp only [hl5_1, hl5_3, hl5_4] at c46b0l)
      clear c46
      by_cases c47 : 0 ≤ (rd y231 x58_4)
      rotate_left
      · rw [if_neg c47] at H
        exact absurd H (by simp)
      rw [if_pos c47] at H
      have c47b0 : decide (0 ≤ (rd y231 x58_4)) = true := decide_eq_true c47
      clear c47
      by_cases c48 : (rd y231 x58_4) < (t217.length : Int)
      rotate_left
      · rw [if_neg c48] at H
        exact absurd H (by simp)
      rw [if_pos c48] at H
      have c48b0 : decide ((rd y231 x58_4) < (t217.length : Int)) = true := decide_eq_true c48
      have c48b0l := c48b0
      (try simp only [hl5_1, hl5_3, hl5_4] at c48b0l)
      clear c48
      have H' := Aside0.mk H
      clear H
      have p235 : 0 ≤ (x58_4 : Int) := of_decide_eq_true (by with_reducible assumption)
      have q235 : x58_4 < (y231.length : Int) := of_decide_eq_true (by with_reducible assumption)
      obtain ⟨ad235, e235, hx235_0⟩ := Kd.at_int HR234.out x58_4 p235 q235
      cases e235
      replace p235 := eq_true p235
      replace q235 := eq_true q235
      have p236 : 0 ≤ ((rd y231 x58_4) : Int) := of_decide_eq_true (by with_reducible assumption)
      have q236 : (rd y231 x58_4) < (t217.length : Int) := of_decide_eq_true (by with_reducible assumption)
      obtain ⟨ad236, A236_0, c236_0, e236, hx236_0, hl236_0, hi236_0⟩ := at_L1 (S_reads' HO_4.out).2.2 (rd y231 x58_4) p236 q236
      cases e236
      obtain ⟨ce236, hce236, hMe236, hcc236⟩ := S_get HO_4.out [] (rd y231 x58_4) p236 (by first | exact q236 | exact of_decide_eq_true (by with_reducible assumption) | (have e_ := (S_reads' HO_4.out).1; omega))
      obtain ⟨ve236_0, rfl, ge236_0⟩ := hMe236
      have hv236_0 := hcc236 0 _ rfl
      rw [Nat.add_zero, show ((Kd.slice 3 (Kd.int .i64))).sz = 1 from rfl, Nat.mul_one] at hv236_0
      replace hv236_0 := Option.some.inj (hv236_0.symm.trans hx236_0)
      rw [hv236_0] at ge236_0
      have HL236_0 := Aside0.mk (show Kd.R (Kd.int .i64) 3 _ _ _ _ (rd_L1 t217 (rd y231 x58_4)) from ge236_0)
      clear hv236_0 ge236_0
      clear hcc236 hce236
      have HR236_0 := Aside0.mk hi236_0
      have HC236_0 := Aside0.mk hl236_0
      clear hi236_0 hl236_0
      replace p236 := eq_true p236
      replace q236 := eq_true q236
      go_wp2
      go_loopg [13, 67] k4 (fun kq v13 v67 w' => ∃ (x13_5 : Int) (x67_5 : Int), v13 = .int .i64 x13_5 ∧ v67 = .int .i64 x67_5 ∧ Aside0 (dom_Nearest.l4 kq t211 t217 x5_4 x6_2 x10_4 (rd y231 x58_4) x13_5 y231 (y231.length : Int) x58_4 (rd_L1 t217 (rd y231 x58_4)) ((rd_L1 t217 (rd y231 x58_4)).length : Int) x67_5 = some r) ∧ Aside0 (kq ≤ k4) ∧ Aside0 (Kd.R (Kd.int .i64) 3 w' w.heap.size (fun k_ => some k_ ≠ ((.slice (some ⟨go38, 0, none⟩) x5_4.length co20) : Value).ownBlock ∧ some k_ ≠ (v224 : Value).ownBlock) (.slice Ao27 t211.length co27) t211) ∧ Aside0 (Kd.S (Kd.slice 3 (Kd.int .i64)) 22 w' w.heap.size (fun k_ => some k_ ≠ ((.slice Ao27 t211.length co27) : Value).ownBlock ∧ some k_ ≠ ((.slice (some ⟨go38, 0, none⟩) x5_4.length co20) : Value).ownBlock ∧ some k_ ≠ (v224 : Value).ownBlock) (.slice (some ad236) t217.length co14) t217) ∧ Aside0 (Kd.R (Kd.int .i64) 3 w' w.heap.size (fun k_ => some k_ ≠ ((.slice Ao27 t211.length co27) : Value).ownBlock ∧ some k_ ≠ (v224 : Value).ownBlock) (.slice (some ⟨go38, 0, none⟩) x5_4.length co20) x5_4) ∧ Aside0 (Kd.R (Kd.int .i64) 3 w' w.heap.size (fun k_ => some k_ ≠ ((.slice Ao27 t211.length co27) : Value).ownBlock ∧ some k_ ≠ ((.slice (some ⟨go38, 0, none⟩) x5_4.length co20) : Value).ownBlock) v224 x6_2) ∧ Aside0 (w'.heap[gb210]? = some (.cells #[.int .i64 a0_0, .int .i64 a0_1, (.slice A0_2 l0_2.length c0_2), (.slice A0_3 l0_3.length c0_3)] 25 (0, 0))) ∧ Aside0 (Kd.C (Kd.int .i64) w' (some ad235) y231.length y231) ∧ Aside0 (Kd.C (Kd.int .i64) w' A236_0 (rd_L1 t217 (rd y231 x58_4)).length (rd_L1 t217 (rd y231 x58_4))) ∧ Aside0 (Below w.heap.size w w'))
      case atStart => exact ⟨((-1)), (0), (by first | rfl | (simp; done) | (simp [*]; done)), (by first | rfl | (simp; done) | (simp [*]; done)), H', ⟨Nat.le_refl _⟩, ⟨by (try simp only [hl5_1]); (try simp only [hl5_3]); (try simp only [hl5_4]); (with_reducible repeat (first | apply R_alloc | apply R_drewN | apply R_drew)); exact HO_3.out⟩, ⟨by (try simp only [hl5_1]); (try simp only [hl5_3]); (try simp only [hl5_4]); (with_reducible repeat (first | apply S_alloc | apply S_drewN | apply S_drew)); exact HO_4.out⟩, ⟨by (try simp only [hl5_1]); (try simp only [hl5_3]); (try simp only [hl5_4]); (with_reducible repeat (first | apply R_alloc | apply R_drewN | apply R_drew)); exact HO_5.out⟩, ⟨by (try simp only [hl5_1]); (try simp only [hl5_3]); (try simp only [hl5_4]); (with_reducible repeat (first | apply R_alloc | apply R_drewN | apply R_drew)); exact HO_6.out⟩, ⟨by (try simp only [hl5_1]); (try simp only [hl5_3]); (try simp only [hl5_4]); (with_reducible repeat (first | refine blk_drewN ?_ _ | refine blk_drew ?_ | refine blk_alloc ?_ _)); exact BK210.out⟩, ⟨by repeat (first | (with_reducible exact HR234.out) | (with_reducible refine C_alloc ?_ _) | (with_reducible refine C_drewN ?_ _) | (with_reducible refine C_drew ?_) | exact HR234.out)⟩, ⟨by repeat (first | (with_reducible exact HR236_0.out) | (with_reducible refine C_alloc ?_ _) | (with_reducible refine C_drewN ?_ _) | (with_reducible refine C_drew ?_) | exact HR236_0.out)⟩, ⟨lu HB.out⟩⟩
      clear H'
      try clear c1
      try clear c2
      try clear p2
      try clear q2
      try clear hx2
      try clear hf2
      try clear c3
      try clear p3
      try clear q3
      try clear hx3
      try clear qi3
      try clear hf3
      try clear c4
      try clear q4
      try clear c5
      try clear c5b0
      try clear c5b1
      try clear c6
      try clear c6b0
      try clear c6b1
      try clear p6
      try clear c20
      try clear c21
      try clear c21b0
      try clear c22
      try clear c22b0
      try clear p22
      try clear q22
      try clear hx22
      try clear c23
      try clear c23b0
      try clear p23
      try clear q23
      try clear hx23
      try clear p24
      try clear q24
      try clear hx24
      try clear hf24
      try clear c28
      try clear c28b0
      try clear c29
      try clear c29b0
      try clear c30
      try clear c30b0
      try clear c31
      try clear c31b0
      try clear c32
      try clear c32b0
      try clear p33
      try clear q33
      try clear hx33
      try clear hf33
      try clear c34
      try clear c35
      try clear c36
      try clear c36b0
      try clear c36b1
      try clear c36b2
      try clear c37
      try clear c37b0
      try clear c37b1
      try clear p38
      try clear q38
      try clear hx38
      try clear qi38
      try clear hf38
      try clear c41
      try clear c42
      try clear c42b0
      try clear c42b1
      try clear c43
      try clear q43
      try clear c44
      try clear c44b0
      try clear c45
      try clear c45b0
      try clear c46
      try clear c46b0
      try clear c47
      try clear c47b0
      try clear c48
      try clear c48b0
      try clear hx227_0
      try clear hx235_0
      try clear hx236_0
      try clear hx24_0
      try clear hx33_0
      try clear hx38_0
      try clear p2
      try clear p22
      try clear p227
      try clear p235
      try clear p236
      try clear p24
      try clear p3
      try clear p33
      try clear p38
      try clear p6
      try clear q2
      try clear q22
      try clear q227
      try clear q235
      try clear q236
      try clear q24
      try clear q3
      try clear q33
      try clear q38
      try clear q4
      try clear q43
      obtain ⟨x13_5, x67_5, rfl, rfl, HA, HK5, HO_3, HO_4, HO_5, HO_6, BK210, HR234, HR236_0, HB⟩ := hrel
      rcases gk with _ | k5
      · exact absurd HA.out (by simp [dom_Nearest.l4])
      have H := HA.out
      clear HA
      simp only [dom_Nearest.l4] at H
      by_cases c49 : x67_5 < ((rd_L1 t217 (rd y231 x58_4)).length : Int)
      · rw [if_pos c49] at H
        have c49b0 : decide (x67_5 < ((rd_L1 t217 (rd y231 x58_4)).length : Int)) = true := decide_eq_true c49
        have c49b0l := c49b0
        (try simp only [hl5_1, hl5_3, hl5_4] at c49b0l)
        clear c49
        by_cases c50 : 0 ≤ x67_5
        rotate_left
        · rw [if_neg c50] at H
          exact absurd H (by simp)
        rw [if_pos c50] at H
        have c50b0 : decide (0 ≤ x67_5) = true := decide_eq_true c50
        clear c50
        by_cases c51 : x67_5 < ((rd_L1 t217 (rd y231 x58_4)).length : Int)
        rotate_left
        · rw [if_neg c51] at H
          exact absurd H (by simp)
        rw [if_pos c51] at H
        have c51b0 : decide (x67_5 < ((rd_L1 t217 (rd y231 x58_4)).length : Int)) = true := decide_eq_true c51
        have c51b0l := c51b0
        (try simp only [hl5_1, hl5_3, hl5_4] at c51b0l)
        clear c51
        by_cases c52 : 0 ≤ (rd (rd_L1 t217 (rd y231 x58_4)) x67_5)
        rotate_left
        · rw [if_neg c52] at H
          exact absurd H (by simp)
        rw [if_pos c52] at H
        have c52b0 : decide (0 ≤ (rd (rd_L1 t217 (rd y231 x58_4)) x67_5)) = true := decide_eq_true c52
        clear c52
        by_cases c53 : (rd (rd_L1 t217 (rd y231 x58_4)) x67_5) < (x5_4.length : Int)
        rotate_left
        · rw [if_neg c53] at H
          exact absurd H (by simp)
        rw [if_pos c53] at H
        have c53b0 : decide ((rd (rd_L1 t217 (rd y231 x58_4)) x67_5) < (x5_4.length : Int)) = true := decide_eq_true c53
        have c53b0l := c53b0
        (try simp only [hl5_1, hl5_3, hl5_4] at c53b0l)
        clear c53
        by_cases c54 : (rd x5_4 (rd (rd_L1 t217 (rd y231 x58_4)) x67_5)) < 0
        · rw [if_pos c54] at H
          have c54b0 : decide ((rd x5_4 (rd (rd_L1 t217 (rd y231 x58_4)) x67_5)) < 0) = true := decide_eq_true c54
          clear c54
          have H' := Aside0.mk H
          clear H
          have p239 : 0 ≤ (x67_5 : Int) := of_decide_eq_true (by with_reducible assumption)
          have q239 : x67_5 < ((rd_L1 t217 (rd y231 x58_4)).length : Int) := of_decide_eq_true (by with_reducible assumption)
          obtain ⟨ad239, e239, hx239_0⟩ := Kd.at_int HR236_0.out x67_5 p239 q239
          cases e239
          replace p239 := eq_true p239
          replace q239 := eq_true q239
          have p240 : 0 ≤ ((rd (rd_L1 t217 (rd y231 x58_4)) x67_5) : Int) := of_decide_eq_true (by with_reducible assumption)
          have q240 : (rd (rd_L1 t217 (rd y231 x58_4)) x67_5) < (x5_4.length : Int) := of_decide_eq_true (by with_reducible assumption)
          obtain ⟨ad240, e240, hx240_0⟩ := Kd.at_int (R_reads' HO_5.out).2.2 (rd (rd_L1 t217 (rd y231 x58_4)) x67_5) p240 q240
          obtain rfl : (⟨go38, 0, none⟩ : Addr) = ad240 := (by injection e240)
          (first | simp only [add_plain] at hx240_0 | simp only [add_at] at hx240_0 | simp only [Addr.add, Nat.zero_add] at hx240_0 | skip)
          replace p240 := eq_true p240
          replace q240 := eq_true q240
          go_wp2
          go_roundg k5
          case measure => have := HK1.out; have := HK2.out; have := HK3.out; have := HK4.out; have := HK5.out; omega
          case rel => exact ⟨(x13_5), (wrap64 (x67_5 + 1)), (by first | rfl | (simp; done) | (simp [*]; done)), (by first | rfl | (simp; done) | (simp [*]; done)), H', ⟨by have := HK1.out; have := HK2.out; have := HK3.out; have := HK4.out; have := HK5.out; omega⟩, ⟨by (try simp only [hl5_1]); (try simp only [hl5_3]); (try simp only [hl5_4]); (with_reducible repeat (first | apply R_alloc | apply R_drewN | apply R_drew)); exact HO_3.out⟩, ⟨by (try simp only [hl5_1]); (try simp only [hl5_3]); (try simp only [hl5_4]); (with_reducible repeat (first | apply S_alloc | apply S_drewN | apply S_drew)); exact HO_4.out⟩, ⟨by (try simp only [hl5_1]); (try simp only [hl5_3]); (try simp only [hl5_4]); (with_reducible repeat (first | apply R_alloc | apply R_drewN | apply R_drew)); exact HO_5.out⟩, ⟨by (try simp only [hl5_1]); (try simp only [hl5_3]); (try simp only [hl5_4]); (with_reducible repeat (first | apply R_alloc | apply R_drewN | apply R_drew)); exact HO_6.out⟩, ⟨by (try simp only [hl5_1]); (try simp only [hl5_3]); (try simp only [hl5_4]); (with_reducible repeat (first | refine blk_drewN ?_ _ | refine blk_drew ?_ | refine blk_alloc ?_ _)); exact BK210.out⟩, ⟨by repeat (first | (with_reducible exact HR234.out) | (with_reducible refine C_alloc ?_ _) | (with_reducible refine C_drewN ?_ _) | (with_reducible refine C_drew ?_) | exact HR234.out)⟩, ⟨by repeat (first | (with_reducible exact HR236_0.out) | (with_reducible refine C_alloc ?_ _) | (with_reducible refine C_drewN ?_ _) | (with_reducible refine C_drew ?_) | exact HR236_0.out)⟩, ⟨lu HB.out⟩⟩
        rw [if_neg c54] at H
        have c54b0 : decide ((rd x5_4 (rd (rd_L1 t217 (rd y231 x58_4)) x67_5)) < 0) = false := decide_eq_false c54
        clear c54
        by_cases c55 : x13_5 < 0
        · rw [if_pos c55] at H
          have c55b0 : decide (x13_5 < 0) = true := decide_eq_true c55
          clear c55
          have H' := Aside0.mk H
          clear H
          have p239 : 0 ≤ (x67_5 : Int) := of_decide_eq_true (by with_reducible assumption)
          have q239 : x67_5 < ((rd_L1 t217 (rd y231 x58_4)).length : Int) := of_decide_eq_true (by with_reducible assumption)
          obtain ⟨ad239, e239, hx239_0⟩ := Kd.at_int HR236_0.out x67_5 p239 q239
          cases e239
          replace p239 := eq_true p239
          replace q239 := eq_true q239
          have p240 : 0 ≤ ((rd (rd_L1 t217 (rd y231 x58_4)) x67_5) : Int) := of_decide_eq_true (by with_reducible assumption)
          have q240 : (rd (rd_L1 t217 (rd y231 x58_4)) x67_5) < (x5_4.length : Int) := of_decide_eq_true (by with_reducible assumption)
          obtain ⟨ad240, e240, hx240_0⟩ := Kd.at_int (R_reads' HO_5.out).2.2 (rd (rd_L1 t217 (rd y231 x58_4)) x67_5) p240 q240
          obtain rfl : (⟨go38, 0, none⟩ : Addr) = ad240 := (by injection e240)
          (first | simp only [add_plain] at hx240_0 | simp only [add_at] at hx240_0 | simp only [Addr.add, Nat.zero_add] at hx240_0 | skip)
          replace p240 := eq_true p240
          replace q240 := eq_true q240
          go_wp2
          go_roundg k5
          case measure => have := HK1.out; have := HK2.out; have := HK3.out; have := HK4.out; have := HK5.out; omega
          case rel => exact ⟨(rd (rd_L1 t217 (rd y231 x58_4)) x67_5), (wrap64 (x67_5 + 1)), (by first | rfl | (simp; done) | (simp [*]; done)), (by first | rfl | (simp; done) | (simp [*]; done)), H', ⟨by have := HK1.out; have := HK2.out; have := HK3.out; have := HK4.out; have := HK5.out; omega⟩, ⟨by (try simp only [hl5_1]); (try simp only [hl5_3]); (try simp only [hl5_4]); (with_reducible repeat (first | apply R_alloc | apply R_drewN | apply R_drew)); exact HO_3.out⟩, ⟨by (try simp only [hl5_1]); (try simp only [hl5_3]); (try simp only [hl5_4]); (with_reducible repeat (first | apply S_alloc | apply S_drewN | apply S_drew)); exact HO_4.out⟩, ⟨by (try simp only [hl5_1]); (try simp only [hl5_3]); (try simp only [hl5_4]); (with_reducible repeat (first | apply R_alloc | apply R_drewN | apply R_drew)); exact HO_5.out⟩, ⟨by (try simp only [hl5_1]); (try simp only [hl5_3]); (try simp only [hl5_4]); (with_reducible repeat (first | apply R_alloc | apply R_drewN | apply R_drew)); exact HO_6.out⟩, ⟨by (try simp only [hl5_1]); (try simp only [hl5_3]); (try simp only [hl5_4]); (with_reducible repeat (first | refine blk_drewN ?_ _ | refine blk_drew ?_ | refine blk_alloc ?_ _)); exact BK210.out⟩, ⟨by repeat (first | (with_reducible exact HR234.out) | (with_reducible refine C_alloc ?_ _) | (with_reducible refine C_drewN ?_ _) | (with_reducible refine C_drew ?_) | exact HR234.out)⟩, ⟨by repeat (first | (with_reducible exact HR236_0.out) | (with_reducible refine C_alloc ?_ _) | (with_reducible refine C_drewN ?_ _) | (with_reducible refine C_drew ?_) | exact HR236_0.out)⟩, ⟨lu HB.out⟩⟩
        rw [if_neg c55] at H
        have c55b0 : decide (x13_5 < 0) = false := decide_eq_false c55
        clear c55
        replace H := Option.bind_eq_some_iff.mp H
        obtain ⟨t241, A560, H⟩ := H
        replace H : (dom_Nearest.l4 k5 t211 t217 x5_4 x6_2 x10_4 (rd y231 x58_4) t241 y231 (y231.length : Int) x58_4 (rd_L1 t217 (rd y231 x58_4)) ((rd_L1 t217 (rd y231 x58_4)).length : Int) (wrap64 (x67_5 + 1))) = some r := H
        have A56 := Aside0.mk A560
        clear A560
        have H' := Aside0.mk H
        clear H
        have p239 : 0 ≤ (x67_5 : Int) := of_decide_eq_true (by with_reducible assumption)
        have q239 : x67_5 < ((rd_L1 t217 (rd y231 x58_4)).length : Int) := of_decide_eq_true (by with_reducible assumption)
        obtain ⟨ad239, e239, hx239_0⟩ := Kd.at_int HR236_0.out x67_5 p239 q239
        cases e239
        replace p239 := eq_true p239
        replace q239 := eq_true q239
        have p240 : 0 ≤ ((rd (rd_L1 t217 (rd y231 x58_4)) x67_5) : Int) := of_decide_eq_true (by with_reducible assumption)
        have q240 : (rd (rd_L1 t217 (rd y231 x58_4)) x67_5) < (x5_4.length : Int) := of_decide_eq_true (by with_reducible assumption)
        obtain ⟨ad240, e240, hx240_0⟩ := Kd.at_int (R_reads' HO_5.out).2.2 (rd (rd_L1 t217 (rd y231 x58_4)) x67_5) p240 q240
        obtain rfl : (⟨go38, 0, none⟩ : Addr) = ad240 := (by injection e240)
        (first | simp only [add_plain] at hx240_0 | simp only [add_at] at hx240_0 | simp only [Addr.add, Nat.zero_add] at hx240_0 | skip)
        replace p240 := eq_true p240
        replace q240 := eq_true q240
        obtain ⟨Ao57, co57, eo57⟩ := Kd.R_slice HO_6.out
        subst eo57
        go_wp2_with (first | ((with_reducible refine gate_callee (f := 36) rfl ?_); refine goesL_ (some 75) rfl rfl Try.func36 (by kernel_rfl) rfl #[.slice (some ⟨go38, 0, none⟩) x5_4.length co20, .slice Ao57 x6_2.length co57, .int .i64 (rd (rd_L1 t217 (rd y231 x58_4)) x67_5), .int .i64 x13_5] rfl (by (try simp only [List.map_toArray, List.map_cons, List.map_nil]); first | done | rfl) ?_; (with_reducible refine (dom_meet.calls k5 _ _ x5_4 _ _ x6_2 (rd (rd_L1 t217 (rd y231 x58_4)) x67_5) x13_5 t241 _ ?side1 ?side2 ?side3 ?side4 A56.out).mono ?_); (case side1 => repeat (first | exact (R_reads' HO_5.out).2.2 | (with_reducible refine C_alloc ?_ _) | (with_reducible refine C_drewN ?_ _) | (with_reducible refine C_drew ?_))); (case side2 => exact (R_reads' HO_5.out).2.1); (case side3 => repeat (first | exact (R_reads' HO_6.out).2.2 | (with_reducible refine C_alloc ?_ _) | (with_reducible refine C_drewN ?_ _) | (with_reducible refine C_drew ?_))); (case side4 => exact (R_reads' HO_6.out).2.1); rintro e w' ⟨rfl, ⟨nd, rfl⟩⟩; refine ⟨_, rfl, ?_⟩))
        go_roundg k5
        case measure => have := HK1.out; have := HK2.out; have := HK3.out; have := HK4.out; have := HK5.out; omega
        case rel => exact ⟨(t241), (wrap64 (x67_5 + 1)), (by first | rfl | (simp; done) | (simp [*]; done)), (by first | rfl | (simp; done) | (simp [*]; done)), H', ⟨by have := HK1.out; have := HK2.out; have := HK3.out; have := HK4.out; have := HK5.out; omega⟩, ⟨by (try simp only [hl5_1]); (try simp only [hl5_3]); (try simp only [hl5_4]); (with_reducible repeat (first | apply R_alloc | apply R_drewN | apply R_drew)); exact HO_3.out⟩, ⟨by (try simp only [hl5_1]); (try simp only [hl5_3]); (try simp only [hl5_4]); (with_reducible repeat (first | apply S_alloc | apply S_drewN | apply S_drew)); exact HO_4.out⟩, ⟨by (try simp only [hl5_1]); (try simp only [hl5_3]); (try simp only [hl5_4]); (with_reducible repeat (first | apply R_alloc | apply R_drewN | apply R_drew)); exact HO_5.out⟩, ⟨by (try simp only [hl5_1]); (try simp only [hl5_3]); (try simp only [hl5_4]); (with_reducible repeat (first | apply R_alloc | apply R_drewN | apply R_drew)); exact HO_6.out⟩, ⟨by (try simp only [hl5_1]); (try simp only [hl5_3]); (try simp only [hl5_4]); (with_reducible repeat (first | refine blk_drewN ?_ _ | refine blk_drew ?_ | refine blk_alloc ?_ _)); exact BK210.out⟩, ⟨by repeat (first | (with_reducible exact HR234.out) | (with_reducible refine C_alloc ?_ _) | (with_reducible refine C_drewN ?_ _) | (with_reducible refine C_drew ?_) | exact HR234.out)⟩, ⟨by repeat (first | (with_reducible exact HR236_0.out) | (with_reducible refine C_alloc ?_ _) | (with_reducible refine C_drewN ?_ _) | (with_reducible refine C_drew ?_) | exact HR236_0.out)⟩, ⟨lu HB.out⟩⟩
      rw [if_neg c49] at H
      have c49b0 : decide (x67_5 < ((rd_L1 t217 (rd y231 x58_4)).length : Int)) = false := decide_eq_false c49
      (try simp only [hl5_1, hl5_3, hl5_4] at c49b0)
      clear c49
      by_cases c58 : 0 ≤ (rd y231 x58_4)
      rotate_left
      · rw [if_neg c58] at H
        exact absurd H (by simp)
      rw [if_pos c58] at H
      have c58b0 : decide (0 ≤ (rd y231 x58_4)) = true := decide_eq_true c58
      clear c58
      by_cases c59 : (rd y231 x58_4) < (x5_4.length : Int)
      rotate_left
      · rw [if_neg c59] at H
        exact absurd H (by simp)
      rw [if_pos c59] at H
      have c59b0 : decide ((rd y231 x58_4) < (x5_4.length : Int)) = true := decide_eq_true c59
      have c59b0l := c59b0
      (try simp only [hl5_1, hl5_3, hl5_4] at c59b0l)
      clear c59
      by_cases c60 : (rd x5_4 (rd y231 x58_4)) = x13_5
      · rw [if_pos c60] at H
        have c60b0 : ((rd x5_4 (rd y231 x58_4)) == x13_5) = true := beq_iff_eq.mpr c60
        have c60b1 : ((rd x5_4 (rd y231 x58_4)) != x13_5) = false := bne_eq_false_iff_eq.mpr c60
        clear c60
        have H' := Aside0.mk H
        clear H
        have p237 : 0 ≤ ((rd y231 x58_4) : Int) := of_decide_eq_true (by with_reducible assumption)
        have q237 : (rd y231 x58_4) < (x5_4.length : Int) := of_decide_eq_true (by with_reducible assumption)
        obtain ⟨ad237, e237, hx237_0⟩ := Kd.at_int (R_reads' HO_5.out).2.2 (rd y231 x58_4) p237 q237
        obtain rfl : (⟨go38, 0, none⟩ : Addr) = ad237 := (by injection e237)
        (first | simp only [add_plain] at hx237_0 | simp only [add_at] at hx237_0 | simp only [Addr.add, Nat.zero_add] at hx237_0 | skip)
        replace p237 := eq_true p237
        replace q237 := eq_true q237
        go_wp2
        (try simp only [← hl5_4])
        go_roundg k5
        case measure => have := HK1.out; have := HK2.out; have := HK3.out; have := HK4.out; have := HK5.out; omega
        case rel => exact ⟨(x5_4), (x10_4), (wrap64 (x58_4 + 1)), (by first | rfl | (simp; done) | (simp [*]; done)), (by first | rfl | (simp; done) | (simp [*]; done)), H', ⟨by have := HK1.out; have := HK2.out; have := HK3.out; have := HK4.out; have := HK5.out; omega⟩, ⟨by (try simp only [hl5_1]); (try simp only [hl5_3]); (try simp only [hl5_4]); (with_reducible repeat (first | apply R_alloc | apply R_drewN | apply R_drew)); exact HO_3.out⟩, ⟨by (try simp only [hl5_1]); (try simp only [hl5_3]); (try simp only [hl5_4]); (with_reducible repeat (first | apply S_alloc | apply S_drewN | apply S_drew)); exact HO_4.out⟩, ⟨by (try simp only [hl5_1]); (try simp only [hl5_3]); (try simp only [hl5_4]); (with_reducible repeat (first | apply R_alloc | apply R_drewN | apply R_drew)); exact HO_5.out⟩, ⟨by (try simp only [hl5_1]); (try simp only [hl5_3]); (try simp only [hl5_4]); (with_reducible repeat (first | apply R_alloc | apply R_drewN | apply R_drew)); exact HO_6.out⟩, ⟨by (try simp only [hl5_1]); (try simp only [hl5_3]); (try simp only [hl5_4]); (with_reducible repeat (first | refine blk_drewN ?_ _ | refine blk_drew ?_ | refine blk_alloc ?_ _)); exact BK210.out⟩, ⟨by repeat (first | (with_reducible exact HR234.out) | (with_reducible refine C_alloc ?_ _) | (with_reducible refine C_drewN ?_ _) | (with_reducible refine C_drew ?_) | exact HR234.out)⟩, ⟨lu HB.out⟩⟩
      rw [if_neg c60] at H
      have c60b0 : ((rd x5_4 (rd y231 x58_4)) == x13_5) = false := beq_eq_false_iff_ne.mpr c60
      have c60b1 : ((rd x5_4 (rd y231 x58_4)) != x13_5) = true := bne_iff_ne.mpr c60
      obtain ⟨y238, hy238⟩ : ∃ y_ : List Int, y_ = (x5_4.set ((rd y231 x58_4) : Int).toNat x13_5) := ⟨_, rfl⟩
      replace H : (dom_Nearest.l3 k5 t211 t217 y238 x6_2 true y231 (y231.length : Int) (wrap64 (x58_4 + 1))) = some r := by first | (rw [hy238]; with_reducible exact H) | (have H2_ := (Option.bind_some _ _).symm.trans H; rw [hy238]; with_reducible exact H2_) | exact H
      have Ny238 := Aside0.mk hy238
      clear hy238
      have H' := Aside0.mk H
      clear H
      have p237 : 0 ≤ ((rd y231 x58_4) : Int) := of_decide_eq_true (by with_reducible assumption)
      have q237 : (rd y231 x58_4) < (x5_4.length : Int) := of_decide_eq_true (by with_reducible assumption)
      obtain ⟨ad237, e237, hx237_0⟩ := Kd.at_int (R_reads' HO_5.out).2.2 (rd y231 x58_4) p237 q237
      obtain rfl : (⟨go38, 0, none⟩ : Addr) = ad237 := (by injection e237)
      (first | simp only [add_plain] at hx237_0 | simp only [add_at] at hx237_0 | simp only [Addr.add, Nat.zero_add] at hx237_0 | skip)
      replace p237 := eq_true p237
      replace q237 := eq_true q237
      have p61 : 0 ≤ ((rd y231 x58_4) : Int) := of_decide_eq_true (by with_reducible assumption)
      have q61 : ((rd y231 x58_4) : Int) < ((x5_4.length : Int) : Int) := of_decide_eq_true (by with_reducible assumption)
      obtain ⟨hx61_0, hf61_0⟩ := Kd.R_celln 0 HO_5.out ((rd y231 x58_4) : Int) p61 q61
      replace p61 := eq_true p61
      replace q61 := eq_true q61
      have HP62 := Kd.R_putg HO_5.out ((rd y231 x58_4) : Int) x13_5
      go_wp2_with (first | ((with_reducible refine gate_store (t := 3) (p := 96) rfl ?_); refine store_event (t := 3) (p := 96) (v := ?vo_w63) (w1 := (wr.setCell ⟨go38, ((rd y231 x58_4) : Int).toNat, none⟩ (.int .i64 x13_5))) ?hg ?ho ?hn ?hr ?_; (case ho => rfl); (case hg => rfl); (case hn => rfl); (case hr => first | (go_simp; done) | (go_simp; rfl)); intro w63 hw; have hg : wr.grownBy w63 (some go38) := (by rw [hw]; exact HP62.2); have hp_ : Kd.R (Kd.int .i64) 3 w63 w.heap.size (fun k_ => some k_ ≠ (.slice Ao27 t211.length co27 : Value).ownBlock ∧ some k_ ≠ (v224 : Value).ownBlock) (.slice (some ⟨go38, 0, none⟩) x5_4.length co20) y238 := (by rw [hw, Ny238.out]; exact HP62.1); clear HP62; have n0_ := Aside0.mk (Kd.R_after (v := (.slice (some ⟨go38, 0, none⟩) x5_4.length co20)) (v1 := (.slice (some ⟨go38, 0, none⟩) x5_4.length co20)) (ok := (fun k_ => some k_ ≠ (v224 : Value).ownBlock)) (ru (R_mono HO_3.out (fun _ hk => ⟨hk.2, hk.1⟩))) hg (.inl rfl)); have n1_ := Aside0.mk (Kd.S_after (v := (.slice (some ⟨go38, 0, none⟩) x5_4.length co20)) (v1 := (.slice (some ⟨go38, 0, none⟩) x5_4.length co20)) (ok := (fun k_ => some k_ ≠ (.slice Ao27 t211.length co27 : Value).ownBlock ∧ some k_ ≠ (v224 : Value).ownBlock)) (su (S_mono HO_4.out (fun _ hk => ⟨⟨hk.1, hk.2.2⟩, hk.2.1⟩))) hg (.inl rfl)); have n2_ := Aside0.mk (hp_); have n3_ := Aside0.mk (Kd.R_after (v := (.slice (some ⟨go38, 0, none⟩) x5_4.length co20)) (v1 := (.slice (some ⟨go38, 0, none⟩) x5_4.length co20)) (ok := (fun k_ => some k_ ≠ (.slice Ao27 t211.length co27 : Value).ownBlock)) (ru HO_6.out) hg (.inl rfl)); have n4_ := Aside0.mk (blk_grown (bu BK210.out) hg (Kd.R_ne HO_5.out BK210.out (by decide))); have n5_ := Aside0.mk ((by rw [hw]; exact below_set (HB.out) GB38.out : Below w.heap.size w w63)); have n6_ := Aside0.mk ((show Kd.C (Kd.int .i64) w63 (some ad235) y231.length y231 from by rw [Ny231.out, KA43.out]; exact Kd.C_drop (m := 1) (c := co27) ((R_reads' (Kd.R_after (v := (.slice (some ⟨go38, 0, none⟩) x5_4.length co20)) (v1 := (.slice (some ⟨go38, 0, none⟩) x5_4.length co20)) (ok := (fun k_ => some k_ ≠ (v224 : Value).ownBlock)) (ru (R_mono HO_3.out (fun _ hk => ⟨hk.2, hk.1⟩))) hg (.inl rfl))).2.2) KL43.out ((R_reads' (Kd.R_after (v := (.slice (some ⟨go38, 0, none⟩) x5_4.length co20)) (v1 := (.slice (some ⟨go38, 0, none⟩) x5_4.length co20)) (ok := (fun k_ => some k_ ≠ (v224 : Value).ownBlock)) (ru (R_mono HO_3.out (fun _ hk => ⟨hk.2, hk.1⟩))) hg (.inl rfl))).2.1))); clear HO_3; clear HO_4; clear HO_5; clear HO_6; clear BK210; clear HB; clear HR234; have HO_3 := n0_; have HO_4 := n1_; have HO_5 := n2_; have HO_6 := n3_; have BK210 := n4_; have HB := n5_; have HR234 := n6_; clear n0_ n1_ n2_ n3_ n4_ n5_ n6_; clear hg hw hp_))
      (try simp only [← hl5_4])
      go_roundg k5
      case measure => have := HK1.out; have := HK2.out; have := HK3.out; have := HK4.out; have := HK5.out; omega
      case rel => exact ⟨(y238), (true), (wrap64 (x58_4 + 1)), (by first | rfl | (simp; done) | (simp [*]; done)), (by first | rfl | (simp; done) | (simp [*]; done)), H', ⟨by have := HK1.out; have := HK2.out; have := HK3.out; have := HK4.out; have := HK5.out; omega⟩, ⟨by (try simp only [hl5_1]); (try simp only [hl5_3]); (try simp only [hl5_4]); (with_reducible repeat (first | apply R_alloc | apply R_drewN | apply R_drew)); exact R_mono HO_3.out (fun _ hk => ⟨hk.2, hk.1⟩)⟩, ⟨by (try simp only [hl5_1]); (try simp only [hl5_3]); (try simp only [hl5_4]); (with_reducible repeat (first | apply S_alloc | apply S_drewN | apply S_drew)); exact S_mono HO_4.out (fun _ hk => ⟨hk.1.1, ⟨hk.2, hk.1.2⟩⟩)⟩, ⟨by (try simp only [hl5_1]); (try simp only [hl5_3]); (try simp only [hl5_4]); (with_reducible repeat (first | apply R_alloc | apply R_drewN | apply R_drew)); exact HO_5.out⟩, ⟨by (try simp only [hl5_1]); (try simp only [hl5_3]); (try simp only [hl5_4]); (with_reducible repeat (first | apply R_alloc | apply R_drewN | apply R_drew)); exact HO_6.out⟩, ⟨by (try simp only [hl5_1]); (try simp only [hl5_3]); (try simp only [hl5_4]); (with_reducible repeat (first | refine blk_drewN ?_ _ | refine blk_drew ?_ | refine blk_alloc ?_ _)); exact BK210.out⟩, ⟨by repeat (first | (with_reducible exact HR234.out) | (with_reducible refine C_alloc ?_ _) | (with_reducible refine C_drewN ?_ _) | (with_reducible refine C_drew ?_) | exact HR234.out)⟩, ⟨lu HB.out⟩⟩
    rw [if_neg c44] at H
    have c44b0 : decide (x58_4 < (y231.length : Int)) = false := decide_eq_false c44
    (try simp only [hl5_1, hl5_3, hl5_4] at c44b0)
    clear c44
    have H' := Aside0.mk H
    clear H
    go_wp2
    (try simp only [← hl5_3, ← hl5_4])
    go_roundg k4
    case measure => have := HK1.out; have := HK2.out; have := HK3.out; have := HK4.out; omega
    case rel => exact ⟨(x5_4), (x10_4), (by first | rfl | (simp; done) | (simp [*]; done)), H', ⟨by have := HK1.out; have := HK2.out; have := HK3.out; have := HK4.out; omega⟩, ⟨by (try simp only [hl5_1]); (try simp only [hl5_3]); (try simp only [hl5_4]); (with_reducible repeat (first | apply R_alloc | apply R_drewN | apply R_drew)); exact HO_3.out⟩, ⟨by (try simp only [hl5_1]); (try simp only [hl5_3]); (try simp only [hl5_4]); (with_reducible repeat (first | apply S_alloc | apply S_drewN | apply S_drew)); exact HO_4.out⟩, ⟨by (try simp only [hl5_1]); (try simp only [hl5_3]); (try simp only [hl5_4]); (with_reducible repeat (first | apply R_alloc | apply R_drewN | apply R_drew)); exact HO_5.out⟩, ⟨by (try simp only [hl5_1]); (try simp only [hl5_3]); (try simp only [hl5_4]); (with_reducible repeat (first | apply R_alloc | apply R_drewN | apply R_drew)); exact HO_6.out⟩, ⟨by (try simp only [hl5_1]); (try simp only [hl5_3]); (try simp only [hl5_4]); (with_reducible repeat (first | refine blk_drewN ?_ _ | refine blk_drew ?_ | refine blk_alloc ?_ _)); exact BK210.out⟩, ⟨lu HB.out⟩⟩
  replace c41 := Bool.eq_false_iff.mpr c41
  subst c41
  have H1 : (if 0 < (x5_3.length : Int) then (some (x5_3.set (0 : Int).toNat (-1))) else (none)) = some r := by rw [if_neg (show ¬ (false = true) by decide)] at H; exact H
  clear H
  have H := H1
  clear H1
  by_cases c64 : 0 < (x5_3.length : Int)
  rotate_left
  · rw [if_neg c64] at H
    exact absurd H (by simp)
  rw [if_pos c64] at H
  have c64b0 : decide (0 < (x5_3.length : Int)) = true := decide_eq_true c64
  have c64b0l := c64b0
  (try simp only [hl5_1, hl5_3] at c64b0l)
  have c64b1 : decide (0 < x5_3.length) = true := decide_eq_true (by omega)
  clear c64
  obtain ⟨y230, hy230⟩ : ∃ y_ : List Int, y_ = (x5_3.set (0 : Int).toNat (-1)) := ⟨_, rfl⟩
  replace H : (some y230) = some r := by first | (rw [hy230]; with_reducible exact H) | (have H2_ := (Option.bind_some _ _).symm.trans H; rw [hy230]; with_reducible exact H2_) | exact H
  have Ny230 := Aside0.mk hy230
  clear hy230
  obtain rfl := Option.some.inj H
  have p65 : 0 ≤ (0 : Int) := (by omega)
  have q65 : (0 : Int) < ((x5_3.length : Int) : Int) := of_decide_eq_true (by with_reducible assumption)
  have qi65 : (0 < x5_3.length) = True := eq_true (by omega)
  obtain ⟨hx65_0, hf65_0⟩ := Kd.R_celln 0 HO_5.out (0 : Int) p65 q65
  (try rw [show ((0 : Int)).toNat = 0 from rfl] at hx65_0)
  (try simp only [Nat.reduceMul, Nat.zero_mul, Nat.zero_add, Nat.reduceAdd] at hx65_0)
  (try rw [show ((0 : Int)).toNat = 0 from rfl] at hf65_0)
  (try simp only [Nat.reduceMul, Nat.zero_mul, Nat.zero_add, Nat.reduceAdd] at hf65_0)
  replace p65 := eq_true p65
  replace q65 := eq_true q65
  have HP66 := Kd.R_putg HO_5.out (0 : Int) (-1)
  go_wp2_with (first | ((with_reducible refine gate_store (t := 3) (p := 99) rfl ?_); refine store_event (t := 3) (p := 99) (v := ?vo_w67) (w1 := (wr.setCell ⟨go38, (0 : Int).toNat, none⟩ (.int .i64 (-1)))) ?hg ?ho ?hn ?hr ?_; (case ho => rfl); (case hg => rfl); (case hn => rfl); (case hr => first | (go_simp; done) | (go_simp; rfl)); intro w67 hw; have hg : wr.grownBy w67 (some go38) := (by rw [hw]; exact HP66.2); have hp_ : Kd.R (Kd.int .i64) 3 w67 w.heap.size (fun k_ => some k_ ≠ (.slice Ao27 t211.length co27 : Value).ownBlock ∧ some k_ ≠ (v224 : Value).ownBlock) (.slice (some ⟨go38, 0, none⟩) x5_3.length co20) y230 := (by rw [hw, Ny230.out]; exact HP66.1); clear HP66; have n0_ := Aside0.mk (Kd.R_after (v := (.slice (some ⟨go38, 0, none⟩) x5_3.length co20)) (v1 := (.slice (some ⟨go38, 0, none⟩) x5_3.length co20)) (ok := (fun k_ => some k_ ≠ (v224 : Value).ownBlock)) (ru (R_mono HO_3.out (fun _ hk => ⟨hk.2, hk.1⟩))) hg (.inl rfl)); have n1_ := Aside0.mk (Kd.S_after (v := (.slice (some ⟨go38, 0, none⟩) x5_3.length co20)) (v1 := (.slice (some ⟨go38, 0, none⟩) x5_3.length co20)) (ok := (fun k_ => some k_ ≠ (.slice Ao27 t211.length co27 : Value).ownBlock ∧ some k_ ≠ (v224 : Value).ownBlock)) (su (S_mono HO_4.out (fun _ hk => ⟨⟨hk.1, hk.2.2⟩, hk.2.1⟩))) hg (.inl rfl)); have n2_ := Aside0.mk (hp_); have n3_ := Aside0.mk (Kd.R_after (v := (.slice (some ⟨go38, 0, none⟩) x5_3.length co20)) (v1 := (.slice (some ⟨go38, 0, none⟩) x5_3.length co20)) (ok := (fun k_ => some k_ ≠ (.slice Ao27 t211.length co27 : Value).ownBlock)) (ru HO_6.out) hg (.inl rfl)); have n4_ := Aside0.mk (blk_grown (bu BK210.out) hg (Kd.R_ne HO_5.out BK210.out (by decide))); have n5_ := Aside0.mk ((by rw [hw]; exact below_set (HB.out) GB38.out : Below w.heap.size w w67)); clear HO_3; clear HO_4; clear HO_5; clear HO_6; clear BK210; clear HB; have HO_3 := n0_; have HO_4 := n1_; have HO_5 := n2_; have HO_6 := n3_; have BK210 := n4_; have HB := n5_; clear n0_ n1_ n2_ n3_ n4_ n5_; clear hg hw hp_))
  go_ret
  exact ⟨_, by first | rfl | (simp [errW_none, errW_some] <;> rfl) | (simp [*, errW_none, errW_some] <;> rfl), ru (R_mono HO_5.out (fun _ hk => trivial)), lu HB.out⟩
end Go.Proofs.Ytpionncanaamgaa.PLoopsStays
