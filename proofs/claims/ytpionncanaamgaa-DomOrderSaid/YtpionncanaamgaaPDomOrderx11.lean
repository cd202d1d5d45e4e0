-- Laid by a program of this session (wip/pp/patch.py over the kit's print).
import Derived.Test.YtpionncanaamgaaPDomOrderx0
import Derived.Test.YtpionncanaamgaaPDomOrderx5
import Derived.Test.YtpionncanaamgaaPDomOrderx7
import Derived.Test.YtpionncanaamgaaPDomOrderx9
import Derived.Test.YtpionncanaamgaaPDomOrderx10
namespace Go.Proofs.Ytpionncanaamgaa.PDomOrder
open Go.RowKit Go.Proofs.YtpionncanaamgaaW.PrintWords Go.Proofs.YtpionncanaamgaaW.PrintLast Go.Proofs.YtpionncanaamgaaW.PrintMore Go.Proofs.YtpionncanaamgaaW.PrintWords.Kd
attribute [local go_sem] max2_int min2_int max_two min_two max_three min_three max_four min_four   -- for this text's walks alone
set_option linter.unusedVariables false
set_option linter.unusedSimpArgs false

/-! ### fettlelaw06_DomOrder: function 4 -/
mutual
def fettlelaw06_DomOrder.l0 : Nat → Bool → List (List Bool) → List Bool → Int → Option (Bool)
  | 0, _, _, _, _ => none
  | k + 1, x3, x5, x6, x7 => if x7 < (x5.length : Int) then (if 0 ≤ x7 then (if ((rd_L11 x5 x7).length : Int) = (x6.length : Int) then (fettlelaw06_DomOrder.l0 k x3 x5 x6 (wrap64 (x7 + 1))) else (some false)) else (none)) else (fettlelaw06_DomOrder.l1 k x3 x5 x6 0)
def fettlelaw06_DomOrder.l1 : Nat → Bool → List (List Bool) → List Bool → Int → Option (Bool)
  | 0, _, _, _, _ => none
  | k + 1, x3, x5, x6, x8 => if x8 < (x5.length : Int) then (if 0 ≤ x8 then (if x8 < ((rd_L11 x5 x8).length : Int) then (if x8 < (x6.length : Int) then (if ((rdOf false (rd_L11 x5 x8) x8) != (rdOf false x6 x8)) = true then (fettlelaw06_DomOrder.j2 k x3 x5 x6 x8 true) else (if 0 < (x5.length : Int) then (if x8 < ((rd_L11 x5 0).length : Int) then (fettlelaw06_DomOrder.j2 k x3 x5 x6 x8 ((rdOf false (rd_L11 x5 0) x8) != (rdOf false x6 x8))) else (none)) else (none))) else (none)) else (none)) else (none)) else (some x3)
def fettlelaw06_DomOrder.j2 : Nat → Bool → List (List Bool) → List Bool → Int → Bool → Option (Bool)
  | 0, _, _, _, _, _ => none
  | k + 1, x3, x5, x6, x8, x70 => if x70 = true then (some false) else (fettlelaw06_DomOrder.l2 k x3 x5 x6 x8 0)
def fettlelaw06_DomOrder.l2 : Nat → Bool → List (List Bool) → List Bool → Int → Int → Option (Bool)
  | 0, _, _, _, _, _ => none
  | k + 1, x3, x5, x6, x8, x9 => if x9 < (x5.length : Int) then (if x8 = x9 then (fettlelaw06_DomOrder.j4 k x3 x5 x6 x8 x9 false) else (if 0 ≤ x8 then (if x8 < (x5.length : Int) then (if 0 ≤ x9 then (if x9 < ((rd_L11 x5 x8).length : Int) then (if rdOf false (rd_L11 x5 x8) x9 = true then (if x8 < ((rd_L11 x5 x9).length : Int) then (fettlelaw06_DomOrder.j4 k x3 x5 x6 x8 x9 (rdOf false (rd_L11 x5 x9) x8)) else (none)) else (fettlelaw06_DomOrder.j4 k x3 x5 x6 x8 x9 false)) else (none)) else (none)) else (none)) else (none))) else (fettlelaw06_DomOrder.l1 k x3 x5 x6 (wrap64 (x8 + 1)))
def fettlelaw06_DomOrder.j4 : Nat → Bool → List (List Bool) → List Bool → Int → Int → Bool → Option (Bool)
  | 0, _, _, _, _, _, _ => none
  | k + 1, x3, x5, x6, x8, x9, x97 => if x97 = true then (some false) else (fettlelaw06_DomOrder.l3 k x3 x5 x6 x8 x9 0)
def fettlelaw06_DomOrder.l3 : Nat → Bool → List (List Bool) → List Bool → Int → Int → Int → Option (Bool)
  | 0, _, _, _, _, _, _ => none
  | k + 1, x3, x5, x6, x8, x9, x10 => if x10 < (x5.length : Int) then (if 0 ≤ x8 then (if x8 < (x5.length : Int) then (if 0 ≤ x10 then (if x10 < ((rd_L11 x5 x8).length : Int) then (if rdOf false (rd_L11 x5 x8) x10 = true then (if 0 ≤ x9 then (if x9 < (x5.length : Int) then (if x10 < ((rd_L11 x5 x9).length : Int) then (if rdOf false (rd_L11 x5 x9) x10 = true then (if x9 < ((rd_L11 x5 x8).length : Int) then (if (rdOf false (rd_L11 x5 x8) x9 = true) then (fettlelaw06_DomOrder.l3 k x3 x5 x6 x8 x9 (wrap64 (x10 + 1))) else (if x8 < ((rd_L11 x5 x9).length : Int) then (if (rdOf false (rd_L11 x5 x9) x8 = true) then (fettlelaw06_DomOrder.l3 k x3 x5 x6 x8 x9 (wrap64 (x10 + 1))) else (some false)) else (none))) else (none)) else (if x9 < ((rd_L11 x5 x8).length : Int) then (if rdOf false (rd_L11 x5 x8) x9 = true then (fettlelaw06_DomOrder.l3 k x3 x5 x6 x8 x9 (wrap64 (x10 + 1))) else (fettlelaw06_DomOrder.l3 k x3 x5 x6 x8 x9 (wrap64 (x10 + 1)))) else (none))) else (none)) else (none)) else (none)) else (if 0 ≤ x9 then (if x9 < ((rd_L11 x5 x8).length : Int) then (if rdOf false (rd_L11 x5 x8) x9 = true then (if x9 < (x5.length : Int) then (if x10 < ((rd_L11 x5 x9).length : Int) then (if rdOf false (rd_L11 x5 x9) x10 = true then (some false) else (fettlelaw06_DomOrder.l3 k x3 x5 x6 x8 x9 (wrap64 (x10 + 1)))) else (none)) else (none)) else (fettlelaw06_DomOrder.l3 k x3 x5 x6 x8 x9 (wrap64 (x10 + 1)))) else (none)) else (none))) else (none)) else (none)) else (none)) else (none)) else (fettlelaw06_DomOrder.l2 k x3 x5 x6 x8 (wrap64 (x9 + 1)))
end
def fettlelaw06_DomOrder.f (k : Nat) (a0_0 : Int) (a0_1 : Int) (l0_2 : List Int) (l0_3 : List (S52)) : Option (Bool) := (fettlelaw06_up.f k).bind fun t313 => ((fettlelaw06_small.f k a0_0 a0_1 l0_2 l0_3).bind fun t314 => (if t314 = true then ((dom_Dominates.f k a0_0 a0_1 l0_2 l0_3).bind fun t315 => ((fettleref05_From.f k a0_0 a0_1 l0_2 l0_3 0 (-1)).bind fun t318 => (if (t315.length : Int) = (t318.length : Int) then (fettlelaw06_DomOrder.l0 k t313 t315 t318 0) else (some false)))) else (some t313)))
theorem fettlelaw06_DomOrder.mono_l : ∀ k, (∀ y0 y1 y2 y3, LeO (fettlelaw06_DomOrder.l0 k y0 y1 y2 y3) (fettlelaw06_DomOrder.l0 (k + 1) y0 y1 y2 y3)) ∧ (∀ y0 y1 y2 y3, LeO (fettlelaw06_DomOrder.l1 k y0 y1 y2 y3) (fettlelaw06_DomOrder.l1 (k + 1) y0 y1 y2 y3)) ∧ (∀ y0 y1 y2 y3 y4, LeO (fettlelaw06_DomOrder.j2 k y0 y1 y2 y3 y4) (fettlelaw06_DomOrder.j2 (k + 1) y0 y1 y2 y3 y4)) ∧ (∀ y0 y1 y2 y3 y4, LeO (fettlelaw06_DomOrder.l2 k y0 y1 y2 y3 y4) (fettlelaw06_DomOrder.l2 (k + 1) y0 y1 y2 y3 y4)) ∧ (∀ y0 y1 y2 y3 y4 y5, LeO (fettlelaw06_DomOrder.j4 k y0 y1 y2 y3 y4 y5) (fettlelaw06_DomOrder.j4 (k + 1) y0 y1 y2 y3 y4 y5)) ∧ (∀ y0 y1 y2 y3 y4 y5, LeO (fettlelaw06_DomOrder.l3 k y0 y1 y2 y3 y4 y5) (fettlelaw06_DomOrder.l3 (k + 1) y0 y1 y2 y3 y4 y5))
  | 0 => ⟨fun _ _ _ _ r h => by simp [fettlelaw06_DomOrder.l0] at h, fun _ _ _ _ r h => by simp [fettlelaw06_DomOrder.l1] at h, fun _ _ _ _ _ r h => by simp [fettlelaw06_DomOrder.j2] at h, fun _ _ _ _ _ r h => by simp [fettlelaw06_DomOrder.l2] at h, fun _ _ _ _ _ _ r h => by simp [fettlelaw06_DomOrder.j4] at h, fun _ _ _ _ _ _ r h => by simp [fettlelaw06_DomOrder.l3] at h⟩
  | k + 1 => by
    obtain ⟨ih0, ih1, ih2, ih3, ih4, ih5⟩ := fettlelaw06_DomOrder.mono_l k
    refine ⟨?_, ?_, ?_, ?_, ?_, ?_⟩
    · intro y0 y1 y2 y3
      unfold fettlelaw06_DomOrder.l0
      repeat' first
      | (with_reducible exact ih0 _ _ _ _)
      | (with_reducible exact ih1 _ _ _ _)
      | (with_reducible exact ih2 _ _ _ _ _)
      | (with_reducible exact ih3 _ _ _ _ _)
      | (with_reducible exact ih4 _ _ _ _ _ _)
      | (with_reducible exact ih5 _ _ _ _ _ _)
      | (with_reducible exact dom_Dominates.mono _ _ _ _ _)
      | (with_reducible exact fettlelaw06_small.mono _ _ _ _ _)
      | (with_reducible exact fettlelaw06_up.mono _)
      | (with_reducible exact fettleref05_From.mono _ _ _ _ _ _ _)
      | (with_reducible exact LeO.refl _)
      | (with_reducible exact LeO.none _)
      | (with_reducible refine LeO.ite ?_ ?_)
      | (with_reducible refine LeO.bind ?_ (fun _ => ?_))
      | exact ih0 _ _ _ _
      | exact ih1 _ _ _ _
      | exact ih2 _ _ _ _ _
      | exact ih3 _ _ _ _ _
      | exact ih4 _ _ _ _ _ _
      | exact ih5 _ _ _ _ _ _
      | exact dom_Dominates.mono _ _ _ _ _
      | exact fettlelaw06_small.mono _ _ _ _ _
      | exact fettlelaw06_up.mono _
      | exact fettleref05_From.mono _ _ _ _ _ _ _
      | exact LeO.none _
      | refine LeO.ite ?_ ?_
      | refine LeO.bind ?_ (fun _ => ?_)
    · intro y0 y1 y2 y3
      unfold fettlelaw06_DomOrder.l1
      repeat' first
      | (with_reducible exact ih0 _ _ _ _)
      | (with_reducible exact ih1 _ _ _ _)
      | (with_reducible exact ih2 _ _ _ _ _)
      | (with_reducible exact ih3 _ _ _ _ _)
      | (with_reducible exact ih4 _ _ _ _ _ _)
      | (with_reducible exact ih5 _ _ _ _ _ _)
      | (with_reducible exact dom_Dominates.mono _ _ _ _ _)
      | (with_reducible exact fettlelaw06_small.mono _ _ _ _ _)
      | (with_reducible exact fettlelaw06_up.mono _)
      | (with_reducible exact fettleref05_From.mono _ _ _ _ _ _ _)
      | (with_reducible exact LeO.refl _)
      | (with_reducible exact LeO.none _)
      | (with_reducible refine LeO.ite ?_ ?_)
      | (with_reducible refine LeO.bind ?_ (fun _ => ?_))
      | exact ih0 _ _ _ _
      | exact ih1 _ _ _ _
      | exact ih2 _ _ _ _ _
      | exact ih3 _ _ _ _ _
      | exact ih4 _ _ _ _ _ _
      | exact ih5 _ _ _ _ _ _
      | exact dom_Dominates.mono _ _ _ _ _
      | exact fettlelaw06_small.mono _ _ _ _ _
      | exact fettlelaw06_up.mono _
      | exact fettleref05_From.mono _ _ _ _ _ _ _
      | exact LeO.none _
      | refine LeO.ite ?_ ?_
      | refine LeO.bind ?_ (fun _ => ?_)
    · intro y0 y1 y2 y3 y4
      unfold fettlelaw06_DomOrder.j2
      repeat' first
      | (with_reducible exact ih0 _ _ _ _)
      | (with_reducible exact ih1 _ _ _ _)
      | (with_reducible exact ih2 _ _ _ _ _)
      | (with_reducible exact ih3 _ _ _ _ _)
      | (with_reducible exact ih4 _ _ _ _ _ _)
      | (with_reducible exact ih5 _ _ _ _ _ _)
      | (with_reducible exact dom_Dominates.mono _ _ _ _ _)
      | (with_reducible exact fettlelaw06_small.mono _ _ _ _ _)
      | (with_reducible exact fettlelaw06_up.mono _)
      | (with_reducible exact fettleref05_From.mono _ _ _ _ _ _ _)
      | (with_reducible exact LeO.refl _)
      | (with_reducible exact LeO.none _)
      | (with_reducible refine LeO.ite ?_ ?_)
      | (with_reducible refine LeO.bind ?_ (fun _ => ?_))
      | exact ih0 _ _ _ _
      | exact ih1 _ _ _ _
      | exact ih2 _ _ _ _ _
      | exact ih3 _ _ _ _ _
      | exact ih4 _ _ _ _ _ _
      | exact ih5 _ _ _ _ _ _
      | exact dom_Dominates.mono _ _ _ _ _
      | exact fettlelaw06_small.mono _ _ _ _ _
      | exact fettlelaw06_up.mono _
      | exact fettleref05_From.mono _ _ _ _ _ _ _
      | exact LeO.none _
      | refine LeO.ite ?_ ?_
      | refine LeO.bind ?_ (fun _ => ?_)
    · intro y0 y1 y2 y3 y4
      unfold fettlelaw06_DomOrder.l2
      repeat' first
      | (with_reducible exact ih0 _ _ _ _)
      | (with_reducible exact ih1 _ _ _ _)
      | (with_reducible exact ih2 _ _ _ _ _)
      | (with_reducible exact ih3 _ _ _ _ _)
      | (with_reducible exact ih4 _ _ _ _ _ _)
      | (with_reducible exact ih5 _ _ _ _ _ _)
      | (with_reducible exact dom_Dominates.mono _ _ _ _ _)
      | (with_reducible exact fettlelaw06_small.mono _ _ _ _ _)
      | (with_reducible exact fettlelaw06_up.mono _)
      | (with_reducible exact fettleref05_From.mono _ _ _ _ _ _ _)
      | (with_reducible exact LeO.refl _)
      | (with_reducible exact LeO.none _)
      | (with_reducible refine LeO.ite ?_ ?_)
      | (with_reducible refine LeO.bind ?_ (fun _ => ?_))
      | exact ih0 _ _ _ _
      | exact ih1 _ _ _ _
      | exact ih2 _ _ _ _ _
      | exact ih3 _ _ _ _ _
      | exact ih4 _ _ _ _ _ _
      | exact ih5 _ _ _ _ _ _
      | exact dom_Dominates.mono _ _ _ _ _
      | exact fettlelaw06_small.mono _ _ _ _ _
      | exact fettlelaw06_up.mono _
      | exact fettleref05_From.mono _ _ _ _ _ _ _
      | exact LeO.none _
      | refine LeO.ite ?_ ?_
      | refine LeO.bind ?_ (fun _ => ?_)
    · intro y0 y1 y2 y3 y4 y5
      unfold fettlelaw06_DomOrder.j4
      repeat' first
      | (with_reducible exact ih0 _ _ _ _)
      | (with_reducible exact ih1 _ _ _ _)
      | (with_reducible exact ih2 _ _ _ _ _)
      | (with_reducible exact ih3 _ _ _ _ _)
      | (with_reducible exact ih4 _ _ _ _ _ _)
      | (with_reducible exact ih5 _ _ _ _ _ _)
      | (with_reducible exact dom_Dominates.mono _ _ _ _ _)
      | (with_reducible exact fettlelaw06_small.mono _ _ _ _ _)
      | (with_reducible exact fettlelaw06_up.mono _)
      | (with_reducible exact fettleref05_From.mono _ _ _ _ _ _ _)
      | (with_reducible exact LeO.refl _)
      | (with_reducible exact LeO.none _)
      | (with_reducible refine LeO.ite ?_ ?_)
      | (with_reducible refine LeO.bind ?_ (fun _ => ?_))
      | exact ih0 _ _ _ _
      | exact ih1 _ _ _ _
      | exact ih2 _ _ _ _ _
      | exact ih3 _ _ _ _ _
      | exact ih4 _ _ _ _ _ _
      | exact ih5 _ _ _ _ _ _
      | exact dom_Dominates.mono _ _ _ _ _
      | exact fettlelaw06_small.mono _ _ _ _ _
      | exact fettlelaw06_up.mono _
      | exact fettleref05_From.mono _ _ _ _ _ _ _
      | exact LeO.none _
      | refine LeO.ite ?_ ?_
      | refine LeO.bind ?_ (fun _ => ?_)
    · intro y0 y1 y2 y3 y4 y5
      unfold fettlelaw06_DomOrder.l3
      repeat' first
      | (with_reducible exact ih0 _ _ _ _)
      | (with_reducible exact ih1 _ _ _ _)
      | (with_reducible exact ih2 _ _ _ _ _)
      | (with_reducible exact ih3 _ _ _ _ _)
      | (with_reducible exact ih4 _ _ _ _ _ _)
      | (with_reducible exact ih5 _ _ _ _ _ _)
      | (with_reducible exact dom_Dominates.mono _ _ _ _ _)
      | (with_reducible exact fettlelaw06_small.mono _ _ _ _ _)
      | (with_reducible exact fettlelaw06_up.mono _)
      | (with_reducible exact fettleref05_From.mono _ _ _ _ _ _ _)
      | (with_reducible exact LeO.refl _)
      | (with_reducible exact LeO.none _)
      | (with_reducible refine LeO.ite ?_ ?_)
      | (with_reducible refine LeO.bind ?_ (fun _ => ?_))
      | exact ih0 _ _ _ _
      | exact ih1 _ _ _ _
      | exact ih2 _ _ _ _ _
      | exact ih3 _ _ _ _ _
      | exact ih4 _ _ _ _ _ _
      | exact ih5 _ _ _ _ _ _
      | exact dom_Dominates.mono _ _ _ _ _
      | exact fettlelaw06_small.mono _ _ _ _ _
      | exact fettlelaw06_up.mono _
      | exact fettleref05_From.mono _ _ _ _ _ _ _
      | exact LeO.none _
      | refine LeO.ite ?_ ?_
      | refine LeO.bind ?_ (fun _ => ?_)
theorem fettlelaw06_DomOrder.mono : ∀ a0 a1 a2 a3 k, LeO (fettlelaw06_DomOrder.f k a0 a1 a2 a3) (fettlelaw06_DomOrder.f (k + 1) a0 a1 a2 a3) := by
  intro a0 a1 a2 a3 k
  obtain ⟨ih0, ih1, ih2, ih3, ih4, ih5⟩ := fettlelaw06_DomOrder.mono_l k
  unfold fettlelaw06_DomOrder.f
  repeat' first
      | (with_reducible exact ih0 _ _ _ _)
      | (with_reducible exact ih1 _ _ _ _)
      | (with_reducible exact ih2 _ _ _ _ _)
      | (with_reducible exact ih3 _ _ _ _ _)
      | (with_reducible exact ih4 _ _ _ _ _ _)
      | (with_reducible exact ih5 _ _ _ _ _ _)
      | (with_reducible exact dom_Dominates.mono _ _ _ _ _)
      | (with_reducible exact fettlelaw06_small.mono _ _ _ _ _)
      | (with_reducible exact fettlelaw06_up.mono _)
      | (with_reducible exact fettleref05_From.mono _ _ _ _ _ _ _)
      | (with_reducible exact LeO.refl _)
      | (with_reducible exact LeO.none _)
      | (with_reducible refine LeO.ite ?_ ?_)
      | (with_reducible refine LeO.bind ?_ (fun _ => ?_))
      | exact ih0 _ _ _ _
      | exact ih1 _ _ _ _
      | exact ih2 _ _ _ _ _
      | exact ih3 _ _ _ _ _
      | exact ih4 _ _ _ _ _ _
      | exact ih5 _ _ _ _ _ _
      | exact dom_Dominates.mono _ _ _ _ _
      | exact fettlelaw06_small.mono _ _ _ _ _
      | exact fettlelaw06_up.mono _
      | exact fettleref05_From.mono _ _ _ _ _ _ _
      | exact LeO.none _
      | refine LeO.ite ?_ ?_
      | refine LeO.bind ?_ (fun _ => ?_)
set_option maxHeartbeats 8000000 in
set_option maxRecDepth 100000 in
theorem fettlelaw06_DomOrder.calls (k : Nat) (a0_0 : Int) (a0_1 : Int) (A0_2 : Option Addr) (c0_2 : Nat) (l0_2 : List Int) (A0_3 : Option Addr) (c0_3 : Nat) (l0_3 : List (S52)) (r : Bool) (w : World) (hr0_2 : Kd.C (Kd.int .i64) w A0_2 l0_2.length l0_2) (hc0_2 : l0_2.length ≤ c0_2) (hr0_3 : Kd.C k52 w A0_3 l0_3.length l0_3) (hc0_3 : l0_3.length ≤ c0_3) (h : fettlelaw06_DomOrder.f k a0_0 a0_1 l0_2 l0_3 = some r) :
    Calls Try.prog 4 #[.agg #[.int .i64 a0_0, .int .i64 a0_1, .slice A0_2 l0_2.length c0_2, .slice A0_3 l0_3.length c0_3]] w fun e w' => e = .returned (.bool r) ∧ Below w.heap.size w w' := by
  have hu25 := Try.underlying25
  have HR0_2 := Aside0.mk hr0_2
  have HC0_2 := Aside0.mk hc0_2
  clear hr0_2 hc0_2
  have HR0_3 := Aside0.mk hr0_3
  have HC0_3 := Aside0.mk hc0_3
  clear hr0_3 hc0_3
  have HB := Aside0.mk (Below.refl w.heap.size w)
  have H : ((fettlelaw06_up.f k).bind fun t313 => ((fettlelaw06_small.f k a0_0 a0_1 l0_2 l0_3).bind fun t314 => (if t314 = true then ((dom_Dominates.f k a0_0 a0_1 l0_2 l0_3).bind fun t315 => ((fettleref05_From.f k a0_0 a0_1 l0_2 l0_3 0 (-1)).bind fun t318 => (if (t315.length : Int) = (t318.length : Int) then (fettlelaw06_DomOrder.l0 k t313 t315 t318 0) else (some false)))) else (some t313)))) = some r := h
  clear h
  replace H := Option.bind_eq_some_iff.mp H
  obtain ⟨t313, A20, H⟩ := H
  replace H : ((fettlelaw06_small.f k a0_0 a0_1 l0_2 l0_3).bind fun t314 => (if t314 = true then ((dom_Dominates.f k a0_0 a0_1 l0_2 l0_3).bind fun t315 => ((fettleref05_From.f k a0_0 a0_1 l0_2 l0_3 0 (-1)).bind fun t318 => (if (t315.length : Int) = (t318.length : Int) then (fettlelaw06_DomOrder.l0 k t313 t315 t318 0) else (some false)))) else (some t313))) = some r := H
  have A2 := Aside0.mk A20
  clear A20
  replace H := Option.bind_eq_some_iff.mp H
  obtain ⟨t314, A30, H⟩ := H
  replace H : (if t314 = true then ((dom_Dominates.f k a0_0 a0_1 l0_2 l0_3).bind fun t315 => ((fettleref05_From.f k a0_0 a0_1 l0_2 l0_3 0 (-1)).bind fun t318 => (if (t315.length : Int) = (t318.length : Int) then (fettlelaw06_DomOrder.l0 k t313 t315 t318 0) else (some false)))) else (some t313)) = some r := H
  have A3 := Aside0.mk A30
  clear A30
  by_cases c4 : t314 = true
  · subst c4
    have H1 : ((dom_Dominates.f k a0_0 a0_1 l0_2 l0_3).bind fun t315 => ((fettleref05_From.f k a0_0 a0_1 l0_2 l0_3 0 (-1)).bind fun t318 => (if (t315.length : Int) = (t318.length : Int) then (fettlelaw06_DomOrder.l0 k t313 t315 t318 0) else (some false)))) = some r := by rw [if_pos rfl] at H; exact H
    clear H
    have H := H1
    clear H1
    replace H := Option.bind_eq_some_iff.mp H
    obtain ⟨t315, A50, H⟩ := H
    replace H : ((fettleref05_From.f k a0_0 a0_1 l0_2 l0_3 0 (-1)).bind fun t318 => (if (t315.length : Int) = (t318.length : Int) then (fettlelaw06_DomOrder.l0 k t313 t315 t318 0) else (some false))) = some r := H
    have A5 := Aside0.mk A50
    clear A50
    replace H := Option.bind_eq_some_iff.mp H
    obtain ⟨t318, A60, H⟩ := H
    replace H : (if (t315.length : Int) = (t318.length : Int) then (fettlelaw06_DomOrder.l0 k t313 t315 t318 0) else (some false)) = some r := H
    have A6 := Aside0.mk A60
    clear A60
    by_cases c7 : (t315.length : Int) = (t318.length : Int)
    · rw [if_pos c7] at H
      have c7b0 : ((t315.length : Int) == (t318.length : Int)) = true := beq_iff_eq.mpr c7
      have c7b1 : ((t315.length : Int) != (t318.length : Int)) = false := bne_eq_false_iff_eq.mpr c7
      have c7b2 : (t315.length == t318.length) = true := by first | simpa using c7 | (simp at c7 ⊢; omega)
      clear c7
      have H' := Aside0.mk H
      clear H
      go_enter Try.func4, Try.ntmps4
      go_wp2_with (first | ((with_reducible refine gate_dst (N := 1) rfl ?_); refine box_event ?hg (N := 1) ?hd (cs := #[.int .i64 a0_0, .int .i64 a0_1, .slice A0_2 l0_2.length c0_2, .slice A0_3 l0_3.length c0_3]) (t := 25) ?hr ?_; (case hd => rfl); (case hg => rfl); (case hr => first | (go_simp; done) | (go_simp; rfl)); intro gb312 hg w8 hbox hb; have n0_ := Aside0.mk (below_step (by repeat with_reducible first | exact HB.out | apply below_alloc | apply pw_below_drewN | apply below_drew1) hb); have n1_ := Aside0.mk (hbox); have n2_ := Aside0.mk ((by rw [hg]; exact (below_size (by repeat with_reducible first | exact HB.out | apply below_alloc | apply pw_below_drewN | apply below_drew1)) : w.heap.size ≤ gb312)); have n3_ := Aside0.mk ((by rw [hg]; exact (below_size (by repeat with_reducible first | exact HB.out | apply below_alloc | apply pw_below_drewN | apply below_drew1)) : w.heap.size ≤ gb312)); clear HB; have HB := n0_; have BK312 := n1_; have GW312 := n2_; have GE312 := n3_; clear n0_ n1_ n2_ n3_; clear hb hbox hg) | (go_at_call 11; (with_reducible refine (fettlelaw06_up.calls k  t313 _ A2.out).mono ?_); rintro e w9 ⟨rfl, hb⟩; have n0_ := Aside0.mk (blk_below (g := gb312) (o := .cells #[.int .i64 a0_0, .int .i64 a0_1, .slice A0_2 l0_2.length c0_2, .slice A0_3 l0_3.length c0_3] 25 (0, 0)) (by (with_reducible repeat (first | refine blk_drewN ?_ _ | refine blk_drew ?_ | refine blk_alloc ?_ _)); exact BK312.out) hb); have n1_ := Aside0.mk (below_step (by repeat with_reducible first | exact HB.out | apply below_alloc | apply pw_below_drewN | apply below_drew1 | refine below_set ?_ GE312.out) hb); clear BK312; clear HB; have BK312 := n0_; have HB := n1_; clear n0_ n1_; (try clear hb); (try clear hb2); (try clear hk); (try clear hi); have hcz10_0 : w9.cell? ⟨gb312, 0, none⟩ = some (.int .i64 a0_0) := (blk_cell BK312.out 0).trans rfl; have hcz10_1 : w9.cell? ⟨gb312, 1, none⟩ = some (.int .i64 a0_1) := (blk_cell BK312.out 1).trans rfl; have hcz10_2 : w9.cell? ⟨gb312, 2, none⟩ = some (.slice A0_2 l0_2.length c0_2) := (blk_cell BK312.out 2).trans rfl; have hcz10_3 : w9.cell? ⟨gb312, 3, none⟩ = some (.slice A0_3 l0_3.length c0_3) := (blk_cell BK312.out 3).trans rfl; have hfz10_0 := blk_frozen BK312.out 0; have hfz10_1 := blk_frozen BK312.out 1; have hfz10_2 := blk_frozen BK312.out 2; have hfz10_3 := blk_frozen BK312.out 3) | (go_at_call 12; (with_reducible refine (fettlelaw06_small.calls k a0_0 a0_1 (fun k_ => k_ < w.heap.size) _ _ l0_2 (fun k_ => k_ < w.heap.size) _ _ l0_3 true _ ?side1 ?side2 A3.out).mono ?_); (case side1 => exact Kd.V_mk HC0_2.out (Kd.F_below (Kd.C_F (Kd.heap_int .i64) HR0_2.out) (by repeat with_reducible first | exact HB.out | apply below_alloc | apply pw_below_drewN | apply below_drew1 | refine below_set ?_ GE312.out))); (case side2 => exact Kd.V_mk HC0_3.out (Kd.F_below (Kd.C_F k52_heap HR0_3.out) (by repeat with_reducible first | exact HB.out | apply below_alloc | apply pw_below_drewN | apply below_drew1 | refine below_set ?_ GE312.out))); rintro e w11 ⟨rfl, hb⟩; have n0_ := Aside0.mk (blk_below (g := gb312) (o := .cells #[.int .i64 a0_0, .int .i64 a0_1, .slice A0_2 l0_2.length c0_2, .slice A0_3 l0_3.length c0_3] 25 (0, 0)) (by (with_reducible repeat (first | refine blk_drewN ?_ _ | refine blk_drew ?_ | refine blk_alloc ?_ _)); exact BK312.out) hb); have n1_ := Aside0.mk (below_step (by repeat with_reducible first | exact HB.out | apply below_alloc | apply pw_below_drewN | apply below_drew1 | refine below_set ?_ GE312.out) hb); clear BK312; clear HB; have BK312 := n0_; have HB := n1_; clear n0_ n1_; (try clear hb); (try clear hb2); (try clear hk); (try clear hi); have hcz12_0 : w11.cell? ⟨gb312, 0, none⟩ = some (.int .i64 a0_0) := (blk_cell BK312.out 0).trans rfl; have hcz12_1 : w11.cell? ⟨gb312, 1, none⟩ = some (.int .i64 a0_1) := (blk_cell BK312.out 1).trans rfl; have hcz12_2 : w11.cell? ⟨gb312, 2, none⟩ = some (.slice A0_2 l0_2.length c0_2) := (blk_cell BK312.out 2).trans rfl; have hcz12_3 : w11.cell? ⟨gb312, 3, none⟩ = some (.slice A0_3 l0_3.length c0_3) := (blk_cell BK312.out 3).trans rfl; have hfz12_0 := blk_frozen BK312.out 0; have hfz12_1 := blk_frozen BK312.out 1; have hfz12_2 := blk_frozen BK312.out 2; have hfz12_3 := blk_frozen BK312.out 3) | (go_at_call 17; (with_reducible refine (dom_Dominates.calls k a0_0 a0_1 _ _ l0_2 _ _ l0_3 t315 _ ?side1 ?side2 ?side3 ?side4 A5.out).mono ?_); (case side1 => repeat (first | exact (C_below HR0_2.out HB.out) | (with_reducible refine C_alloc ?_ _) | (with_reducible refine C_drewN ?_ _) | (with_reducible refine C_drew ?_))); (case side2 => exact HC0_2.out); (case side3 => repeat (first | exact (C_below HR0_3.out HB.out) | (with_reducible refine C_alloc ?_ _) | (with_reducible refine C_drewN ?_ _) | (with_reducible refine C_drew ?_))); (case side4 => exact HC0_3.out); rintro e w13 ⟨v316, rfl, ho0, hb⟩; have n0_ := Aside0.mk (Kd.S_lower ho0 (below_size (by repeat with_reducible first | exact HB.out | apply below_alloc | apply pw_below_drewN | apply below_drew1 | refine below_set ?_ GE312.out))); have n1_ := Aside0.mk (blk_below (g := gb312) (o := .cells #[.int .i64 a0_0, .int .i64 a0_1, .slice A0_2 l0_2.length c0_2, .slice A0_3 l0_3.length c0_3] 25 (0, 0)) (by (with_reducible repeat (first | refine blk_drewN ?_ _ | refine blk_drew ?_ | refine blk_alloc ?_ _)); exact BK312.out) hb); have n2_ := Aside0.mk (below_step (by repeat with_reducible first | exact HB.out | apply below_alloc | apply pw_below_drewN | apply below_drew1 | refine below_set ?_ GE312.out) hb); clear BK312; clear HB; have HO317 := n0_; have BK312 := n1_; have HB := n2_; clear n0_ n1_ n2_; (try clear hb); (try clear hb2); (try clear hk); (try clear hi); (try clear ho0); have hcz14_0 : w13.cell? ⟨gb312, 0, none⟩ = some (.int .i64 a0_0) := (blk_cell BK312.out 0).trans rfl; have hcz14_1 : w13.cell? ⟨gb312, 1, none⟩ = some (.int .i64 a0_1) := (blk_cell BK312.out 1).trans rfl; have hcz14_2 : w13.cell? ⟨gb312, 2, none⟩ = some (.slice A0_2 l0_2.length c0_2) := (blk_cell BK312.out 2).trans rfl; have hcz14_3 : w13.cell? ⟨gb312, 3, none⟩ = some (.slice A0_3 l0_3.length c0_3) := (blk_cell BK312.out 3).trans rfl; have hfz14_0 := blk_frozen BK312.out 0; have hfz14_1 := blk_frozen BK312.out 1; have hfz14_2 := blk_frozen BK312.out 2; have hfz14_3 := blk_frozen BK312.out 3) | (go_at_call 18; (with_reducible refine (fettleref05_From.calls k a0_0 a0_1 _ _ l0_2 _ _ l0_3 0 (-1) t318 _ ?side1 ?side2 ?side3 ?side4 A6.out).mono ?_); (case side1 => repeat (first | exact (C_below HR0_2.out HB.out) | (with_reducible refine C_alloc ?_ _) | (with_reducible refine C_drewN ?_ _) | (with_reducible refine C_drew ?_))); (case side2 => exact HC0_2.out); (case side3 => repeat (first | exact (C_below HR0_3.out HB.out) | (with_reducible refine C_alloc ?_ _) | (with_reducible refine C_drewN ?_ _) | (with_reducible refine C_drew ?_))); (case side4 => exact HC0_3.out); rintro e w15 ⟨v319, rfl, ho0, hb⟩; have n0_ := Aside0.mk (Kd.S_elder' (by (with_reducible repeat (first | apply S_alloc | apply S_drewN | apply S_drew)); exact HO317.out) (R_base ho0) hb); have n1_ := Aside0.mk (Kd.R_lower ho0 (below_size (by repeat with_reducible first | exact HB.out | apply below_alloc | apply pw_below_drewN | apply below_drew1 | refine below_set ?_ GE312.out))); have n2_ := Aside0.mk (blk_below (g := gb312) (o := .cells #[.int .i64 a0_0, .int .i64 a0_1, .slice A0_2 l0_2.length c0_2, .slice A0_3 l0_3.length c0_3] 25 (0, 0)) (by (with_reducible repeat (first | refine blk_drewN ?_ _ | refine blk_drew ?_ | refine blk_alloc ?_ _)); exact BK312.out) hb); have n3_ := Aside0.mk (below_step (by repeat with_reducible first | exact HB.out | apply below_alloc | apply pw_below_drewN | apply below_drew1 | refine below_set ?_ GE312.out) hb); clear HO317; clear BK312; clear HB; have HO317 := n0_; have HO320 := n1_; have BK312 := n2_; have HB := n3_; clear n0_ n1_ n2_ n3_; (try clear hb); (try clear hb2); (try clear hk); (try clear hi); (try clear ho0); obtain ⟨Ao16, co16, eo16⟩ := Kd.S_slice HO317.out; subst eo16; obtain ⟨Ao17, co17, eo17⟩ := Kd.R_slice HO320.out; subst eo17))
      repeat (go_quiet (first | ((with_reducible refine gate_dst (N := 1) rfl ?_); refine box_event ?hg (N := 1) ?hd (cs := #[.int .i64 a0_0, .int .i64 a0_1, .slice A0_2 l0_2.length c0_2, .slice A0_3 l0_3.length c0_3]) (t := 25) ?hr ?_; (case hd => rfl); (case hg => rfl); (case hr => first | (go_simp; done) | (go_simp; rfl)); intro gb312 hg w8 hbox hb; have n0_ := Aside0.mk (below_step (by repeat with_reducible first | exact HB.out | apply below_alloc | apply pw_below_drewN | apply below_drew1) hb); have n1_ := Aside0.mk (hbox); have n2_ := Aside0.mk ((by rw [hg]; exact (below_size (by repeat with_reducible first | exact HB.out | apply below_alloc | apply pw_below_drewN | apply below_drew1)) : w.heap.size ≤ gb312)); have n3_ := Aside0.mk ((by rw [hg]; exact (below_size (by repeat with_reducible first | exact HB.out | apply below_alloc | apply pw_below_drewN | apply below_drew1)) : w.heap.size ≤ gb312)); clear HB; have HB := n0_; have BK312 := n1_; have GW312 := n2_; have GE312 := n3_; clear n0_ n1_ n2_ n3_; clear hb hbox hg) | (go_at_call 11; (with_reducible refine (fettlelaw06_up.calls k  t313 _ A2.out).mono ?_); rintro e w9 ⟨rfl, hb⟩; have n0_ := Aside0.mk (blk_below (g := gb312) (o := .cells #[.int .i64 a0_0, .int .i64 a0_1, .slice A0_2 l0_2.length c0_2, .slice A0_3 l0_3.length c0_3] 25 (0, 0)) (by (with_reducible repeat (first | refine blk_drewN ?_ _ | refine blk_drew ?_ | refine blk_alloc ?_ _)); exact BK312.out) hb); have n1_ := Aside0.mk (below_step (by repeat with_reducible first | exact HB.out | apply below_alloc | apply pw_below_drewN | apply below_drew1 | refine below_set ?_ GE312.out) hb); clear BK312; clear HB; have BK312 := n0_; have HB := n1_; clear n0_ n1_; (try clear hb); (try clear hb2); (try clear hk); (try clear hi); have hcz10_0 : w9.cell? ⟨gb312, 0, none⟩ = some (.int .i64 a0_0) := (blk_cell BK312.out 0).trans rfl; have hcz10_1 : w9.cell? ⟨gb312, 1, none⟩ = some (.int .i64 a0_1) := (blk_cell BK312.out 1).trans rfl; have hcz10_2 : w9.cell? ⟨gb312, 2, none⟩ = some (.slice A0_2 l0_2.length c0_2) := (blk_cell BK312.out 2).trans rfl; have hcz10_3 : w9.cell? ⟨gb312, 3, none⟩ = some (.slice A0_3 l0_3.length c0_3) := (blk_cell BK312.out 3).trans rfl; have hfz10_0 := blk_frozen BK312.out 0; have hfz10_1 := blk_frozen BK312.out 1; have hfz10_2 := blk_frozen BK312.out 2; have hfz10_3 := blk_frozen BK312.out 3) | (go_at_call 12; (with_reducible refine (fettlelaw06_small.calls k a0_0 a0_1 (fun k_ => k_ < w.heap.size) _ _ l0_2 (fun k_ => k_ < w.heap.size) _ _ l0_3 true _ ?side1 ?side2 A3.out).mono ?_); (case side1 => exact Kd.V_mk HC0_2.out (Kd.F_below (Kd.C_F (Kd.heap_int .i64) HR0_2.out) (by repeat with_reducible first | exact HB.out | apply below_alloc | apply pw_below_drewN | apply below_drew1 | refine below_set ?_ GE312.out))); (case side2 => exact Kd.V_mk HC0_3.out (Kd.F_below (Kd.C_F k52_heap HR0_3.out) (by repeat with_reducible first | exact HB.out | apply below_alloc | apply pw_below_drewN | apply below_drew1 | refine below_set ?_ GE312.out))); rintro e w11 ⟨rfl, hb⟩; have n0_ := Aside0.mk (blk_below (g := gb312) (o := .cells #[.int .i64 a0_0, .int .i64 a0_1, .slice A0_2 l0_2.length c0_2, .slice A0_3 l0_3.length c0_3] 25 (0, 0)) (by (with_reducible repeat (first | refine blk_drewN ?_ _ | refine blk_drew ?_ | refine blk_alloc ?_ _)); exact BK312.out) hb); have n1_ := Aside0.mk (below_step (by repeat with_reducible first | exact HB.out | apply below_alloc | apply pw_below_drewN | apply below_drew1 | refine below_set ?_ GE312.out) hb); clear BK312; clear HB; have BK312 := n0_; have HB := n1_; clear n0_ n1_; (try clear hb); (try clear hb2); (try clear hk); (try clear hi); have hcz12_0 : w11.cell? ⟨gb312, 0, none⟩ = some (.int .i64 a0_0) := (blk_cell BK312.out 0).trans rfl; have hcz12_1 : w11.cell? ⟨gb312, 1, none⟩ = some (.int .i64 a0_1) := (blk_cell BK312.out 1).trans rfl; have hcz12_2 : w11.cell? ⟨gb312, 2, none⟩ = some (.slice A0_2 l0_2.length c0_2) := (blk_cell BK312.out 2).trans rfl; have hcz12_3 : w11.cell? ⟨gb312, 3, none⟩ = some (.slice A0_3 l0_3.length c0_3) := (blk_cell BK312.out 3).trans rfl; have hfz12_0 := blk_frozen BK312.out 0; have hfz12_1 := blk_frozen BK312.out 1; have hfz12_2 := blk_frozen BK312.out 2; have hfz12_3 := blk_frozen BK312.out 3) | (go_at_call 17; (with_reducible refine (dom_Dominates.calls k a0_0 a0_1 _ _ l0_2 _ _ l0_3 t315 _ ?side1 ?side2 ?side3 ?side4 A5.out).mono ?_); (case side1 => repeat (first | exact (C_below HR0_2.out HB.out) | (with_reducible refine C_alloc ?_ _) | (with_reducible refine C_drewN ?_ _) | (with_reducible refine C_drew ?_))); (case side2 => exact HC0_2.out); (case side3 => repeat (first | exact (C_below HR0_3.out HB.out) | (with_reducible refine C_alloc ?_ _) | (with_reducible refine C_drewN ?_ _) | (with_reducible refine C_drew ?_))); (case side4 => exact HC0_3.out); rintro e w13 ⟨v316, rfl, ho0, hb⟩; have n0_ := Aside0.mk (Kd.S_lower ho0 (below_size (by repeat with_reducible first | exact HB.out | apply below_alloc | apply pw_below_drewN | apply below_drew1 | refine below_set ?_ GE312.out))); have n1_ := Aside0.mk (blk_below (g := gb312) (o := .cells #[.int .i64 a0_0, .int .i64 a0_1, .slice A0_2 l0_2.length c0_2, .slice A0_3 l0_3.length c0_3] 25 (0, 0)) (by (with_reducible repeat (first | refine blk_drewN ?_ _ | refine blk_drew ?_ | refine blk_alloc ?_ _)); exact BK312.out) hb); have n2_ := Aside0.mk (below_step (by repeat with_reducible first | exact HB.out | apply below_alloc | apply pw_below_drewN | apply below_drew1 | refine below_set ?_ GE312.out) hb); clear BK312; clear HB; have HO317 := n0_; have BK312 := n1_; have HB := n2_; clear n0_ n1_ n2_; (try clear hb); (try clear hb2); (try clear hk); (try clear hi); (try clear ho0); have hcz14_0 : w13.cell? ⟨gb312, 0, none⟩ = some (.int .i64 a0_0) := (blk_cell BK312.out 0).trans rfl; have hcz14_1 : w13.cell? ⟨gb312, 1, none⟩ = some (.int .i64 a0_1) := (blk_cell BK312.out 1).trans rfl; have hcz14_2 : w13.cell? ⟨gb312, 2, none⟩ = some (.slice A0_2 l0_2.length c0_2) := (blk_cell BK312.out 2).trans rfl; have hcz14_3 : w13.cell? ⟨gb312, 3, none⟩ = some (.slice A0_3 l0_3.length c0_3) := (blk_cell BK312.out 3).trans rfl; have hfz14_0 := blk_frozen BK312.out 0; have hfz14_1 := blk_frozen BK312.out 1; have hfz14_2 := blk_frozen BK312.out 2; have hfz14_3 := blk_frozen BK312.out 3) | (go_at_call 18; (with_reducible refine (fettleref05_From.calls k a0_0 a0_1 _ _ l0_2 _ _ l0_3 0 (-1) t318 _ ?side1 ?side2 ?side3 ?side4 A6.out).mono ?_); (case side1 => repeat (first | exact (C_below HR0_2.out HB.out) | (with_reducible refine C_alloc ?_ _) | (with_reducible refine C_drewN ?_ _) | (with_reducible refine C_drew ?_))); (case side2 => exact HC0_2.out); (case side3 => repeat (first | exact (C_below HR0_3.out HB.out) | (with_reducible refine C_alloc ?_ _) | (with_reducible refine C_drewN ?_ _) | (with_reducible refine C_drew ?_))); (case side4 => exact HC0_3.out); rintro e w15 ⟨v319, rfl, ho0, hb⟩; have n0_ := Aside0.mk (Kd.S_elder' (by (with_reducible repeat (first | apply S_alloc | apply S_drewN | apply S_drew)); exact HO317.out) (R_base ho0) hb); have n1_ := Aside0.mk (Kd.R_lower ho0 (below_size (by repeat with_reducible first | exact HB.out | apply below_alloc | apply pw_below_drewN | apply below_drew1 | refine below_set ?_ GE312.out))); have n2_ := Aside0.mk (blk_below (g := gb312) (o := .cells #[.int .i64 a0_0, .int .i64 a0_1, .slice A0_2 l0_2.length c0_2, .slice A0_3 l0_3.length c0_3] 25 (0, 0)) (by (with_reducible repeat (first | refine blk_drewN ?_ _ | refine blk_drew ?_ | refine blk_alloc ?_ _)); exact BK312.out) hb); have n3_ := Aside0.mk (below_step (by repeat with_reducible first | exact HB.out | apply below_alloc | apply pw_below_drewN | apply below_drew1 | refine below_set ?_ GE312.out) hb); clear HO317; clear BK312; clear HB; have HO317 := n0_; have HO320 := n1_; have BK312 := n2_; have HB := n3_; clear n0_ n1_ n2_ n3_; (try clear hb); (try clear hb2); (try clear hk); (try clear hi); (try clear ho0); obtain ⟨Ao16, co16, eo16⟩ := Kd.S_slice HO317.out; subst eo16; obtain ⟨Ao17, co17, eo17⟩ := Kd.R_slice HO320.out; subst eo17)); try go_wp2_with (first | ((with_reducible refine gate_dst (N := 1) rfl ?_); refine box_event ?hg (N := 1) ?hd (cs := #[.int .i64 a0_0, .int .i64 a0_1, .slice A0_2 l0_2.length c0_2, .slice A0_3 l0_3.length c0_3]) (t := 25) ?hr ?_; (case hd => rfl); (case hg => rfl); (case hr => first | (go_simp; done) | (go_simp; rfl)); intro gb312 hg w8 hbox hb; have n0_ := Aside0.mk (below_step (by repeat with_reducible first | exact HB.out | apply below_alloc | apply pw_below_drewN | apply below_drew1) hb); have n1_ := Aside0.mk (hbox); have n2_ := Aside0.mk ((by rw [hg]; exact (below_size (by repeat with_reducible first | exact HB.out | apply below_alloc | apply pw_below_drewN | apply below_drew1)) : w.heap.size ≤ gb312)); have n3_ := Aside0.mk ((by rw [hg]; exact (below_size (by repeat with_reducible first | exact HB.out | apply below_alloc | apply pw_below_drewN | apply below_drew1)) : w.heap.size ≤ gb312)); clear HB; have HB := n0_; have BK312 := n1_; have GW312 := n2_; have GE312 := n3_; clear n0_ n1_ n2_ n3_; clear hb hbox hg) | (go_at_call 11; (with_reducible refine (fettlelaw06_up.calls k  t313 _ A2.out).mono ?_); rintro e w9 ⟨rfl, hb⟩; have n0_ := Aside0.mk (blk_below (g := gb312) (o := .cells #[.int .i64 a0_0, .int .i64 a0_1, .slice A0_2 l0_2.length c0_2, .slice A0_3 l0_3.length c0_3] 25 (0, 0)) (by (with_reducible repeat (first | refine blk_drewN ?_ _ | refine blk_drew ?_ | refine blk_alloc ?_ _)); exact BK312.out) hb); have n1_ := Aside0.mk (below_step (by repeat with_reducible first | exact HB.out | apply below_alloc | apply pw_below_drewN | apply below_drew1 | refine below_set ?_ GE312.out) hb); clear BK312; clear HB; have BK312 := n0_; have HB := n1_; clear n0_ n1_; (try clear hb); (try clear hb2); (try clear hk); (try clear hi); have hcz10_0 : w9.cell? ⟨gb312, 0, none⟩ = some (.int .i64 a0_0) := (blk_cell BK312.out 0).trans rfl; have hcz10_1 : w9.cell? ⟨gb312, 1, none⟩ = some (.int .i64 a0_1) := (blk_cell BK312.out 1).trans rfl; have hcz10_2 : w9.cell? ⟨gb312, 2, none⟩ = some (.slice A0_2 l0_2.length c0_2) := (blk_cell BK312.out 2).trans rfl; have hcz10_3 : w9.cell? ⟨gb312, 3, none⟩ = some (.slice A0_3 l0_3.length c0_3) := (blk_cell BK312.out 3).trans rfl; have hfz10_0 := blk_frozen BK312.out 0; have hfz10_1 := blk_frozen BK312.out 1; have hfz10_2 := blk_frozen BK312.out 2; have hfz10_3 := blk_frozen BK312.out 3) | (go_at_call 12; (with_reducible refine (fettlelaw06_small.calls k a0_0 a0_1 (fun k_ => k_ < w.heap.size) _ _ l0_2 (fun k_ => k_ < w.heap.size) _ _ l0_3 true _ ?side1 ?side2 A3.out).mono ?_); (case side1 => exact Kd.V_mk HC0_2.out (Kd.F_below (Kd.C_F (Kd.heap_int .i64) HR0_2.out) (by repeat with_reducible first | exact HB.out | apply below_alloc | apply pw_below_drewN | apply below_drew1 | refine below_set ?_ GE312.out))); (case side2 => exact Kd.V_mk HC0_3.out (Kd.F_below (Kd.C_F k52_heap HR0_3.out) (by repeat with_reducible first | exact HB.out | apply below_alloc | apply pw_below_drewN | apply below_drew1 | refine below_set ?_ GE312.out))); rintro e w11 ⟨rfl, hb⟩; have n0_ := Aside0.mk (blk_below (g := gb312) (o := .cells #[.int .i64 a0_0, .int .i64 a0_1, .slice A0_2 l0_2.length c0_2, .slice A0_3 l0_3.length c0_3] 25 (0, 0)) (by (with_reducible repeat (first | refine blk_drewN ?_ _ | refine blk_drew ?_ | refine blk_alloc ?_ _)); exact BK312.out) hb); have n1_ := Aside0.mk (below_step (by repeat with_reducible first | exact HB.out | apply below_alloc | apply pw_below_drewN | apply below_drew1 | refine below_set ?_ GE312.out) hb); clear BK312; clear HB; have BK312 := n0_; have HB := n1_; clear n0_ n1_; (try clear hb); (try clear hb2); (try clear hk); (try clear hi); have hcz12_0 : w11.cell? ⟨gb312, 0, none⟩ = some (.int .i64 a0_0) := (blk_cell BK312.out 0).trans rfl; have hcz12_1 : w11.cell? ⟨gb312, 1, none⟩ = some (.int .i64 a0_1) := (blk_cell BK312.out 1).trans rfl; have hcz12_2 : w11.cell? ⟨gb312, 2, none⟩ = some (.slice A0_2 l0_2.length c0_2) := (blk_cell BK312.out 2).trans rfl; have hcz12_3 : w11.cell? ⟨gb312, 3, none⟩ = some (.slice A0_3 l0_3.length c0_3) := (blk_cell BK312.out 3).trans rfl; have hfz12_0 := blk_frozen BK312.out 0; have hfz12_1 := blk_frozen BK312.out 1; have hfz12_2 := blk_frozen BK312.out 2; have hfz12_3 := blk_frozen BK312.out 3) | (go_at_call 17; (with_reducible refine (dom_Dominates.calls k a0_0 a0_1 _ _ l0_2 _ _ l0_3 t315 _ ?side1 ?side2 ?side3 ?side4 A5.out).mono ?_); (case side1 => repeat (first | exact (C_below HR0_2.out HB.out) | (with_reducible refine C_alloc ?_ _) | (with_reducible refine C_drewN ?_ _) | (with_reducible refine C_drew ?_))); (case side2 => exact HC0_2.out); (case side3 => repeat (first | exact (C_below HR0_3.out HB.out) | (with_reducible refine C_alloc ?_ _) | (with_reducible refine C_drewN ?_ _) | (with_reducible refine C_drew ?_))); (case side4 => exact HC0_3.out); rintro e w13 ⟨v316, rfl, ho0, hb⟩; have n0_ := Aside0.mk (Kd.S_lower ho0 (below_size (by repeat with_reducible first | exact HB.out | apply below_alloc | apply pw_below_drewN | apply below_drew1 | refine below_set ?_ GE312.out))); have n1_ := Aside0.mk (blk_below (g := gb312) (o := .cells #[.int .i64 a0_0, .int .i64 a0_1, .slice A0_2 l0_2.length c0_2, .slice A0_3 l0_3.length c0_3] 25 (0, 0)) (by (with_reducible repeat (first | refine blk_drewN ?_ _ | refine blk_drew ?_ | refine blk_alloc ?_ _)); exact BK312.out) hb); have n2_ := Aside0.mk (below_step (by repeat with_reducible first | exact HB.out | apply below_alloc | apply pw_below_drewN | apply below_drew1 | refine below_set ?_ GE312.out) hb); clear BK312; clear HB; have HO317 := n0_; have BK312 := n1_; have HB := n2_; clear n0_ n1_ n2_; (try clear hb); (try clear hb2); (try clear hk); (try clear hi); (try clear ho0); have hcz14_0 : w13.cell? ⟨gb312, 0, none⟩ = some (.int .i64 a0_0) := (blk_cell BK312.out 0).trans rfl; have hcz14_1 : w13.cell? ⟨gb312, 1, none⟩ = some (.int .i64 a0_1) := (blk_cell BK312.out 1).trans rfl; have hcz14_2 : w13.cell? ⟨gb312, 2, none⟩ = some (.slice A0_2 l0_2.length c0_2) := (blk_cell BK312.out 2).trans rfl; have hcz14_3 : w13.cell? ⟨gb312, 3, none⟩ = some (.slice A0_3 l0_3.length c0_3) := (blk_cell BK312.out 3).trans rfl; have hfz14_0 := blk_frozen BK312.out 0; have hfz14_1 := blk_frozen BK312.out 1; have hfz14_2 := blk_frozen BK312.out 2; have hfz14_3 := blk_frozen BK312.out 3) | (go_at_call 18; (with_reducible refine (fettleref05_From.calls k a0_0 a0_1 _ _ l0_2 _ _ l0_3 0 (-1) t318 _ ?side1 ?side2 ?side3 ?side4 A6.out).mono ?_); (case side1 => repeat (first | exact (C_below HR0_2.out HB.out) | (with_reducible refine C_alloc ?_ _) | (with_reducible refine C_drewN ?_ _) | (with_reducible refine C_drew ?_))); (case side2 => exact HC0_2.out); (case side3 => repeat (first | exact (C_below HR0_3.out HB.out) | (with_reducible refine C_alloc ?_ _) | (with_reducible refine C_drewN ?_ _) | (with_reducible refine C_drew ?_))); (case side4 => exact HC0_3.out); rintro e w15 ⟨v319, rfl, ho0, hb⟩; have n0_ := Aside0.mk (Kd.S_elder' (by (with_reducible repeat (first | apply S_alloc | apply S_drewN | apply S_drew)); exact HO317.out) (R_base ho0) hb); have n1_ := Aside0.mk (Kd.R_lower ho0 (below_size (by repeat with_reducible first | exact HB.out | apply below_alloc | apply pw_below_drewN | apply below_drew1 | refine below_set ?_ GE312.out))); have n2_ := Aside0.mk (blk_below (g := gb312) (o := .cells #[.int .i64 a0_0, .int .i64 a0_1, .slice A0_2 l0_2.length c0_2, .slice A0_3 l0_3.length c0_3] 25 (0, 0)) (by (with_reducible repeat (first | refine blk_drewN ?_ _ | refine blk_drew ?_ | refine blk_alloc ?_ _)); exact BK312.out) hb); have n3_ := Aside0.mk (below_step (by repeat with_reducible first | exact HB.out | apply below_alloc | apply pw_below_drewN | apply below_drew1 | refine below_set ?_ GE312.out) hb); clear HO317; clear BK312; clear HB; have HO317 := n0_; have HO320 := n1_; have BK312 := n2_; have HB := n3_; clear n0_ n1_ n2_ n3_; (try clear hb); (try clear hb2); (try clear hk); (try clear hi); (try clear ho0); obtain ⟨Ao16, co16, eo16⟩ := Kd.S_slice HO317.out; subst eo16; obtain ⟨Ao17, co17, eo17⟩ := Kd.R_slice HO320.out; subst eo17)))
      go_loopg [7] k (fun kq v7 w' => ∃ (x7_1 : Int), v7 = .int .i64 x7_1 ∧ Aside0 (fettlelaw06_DomOrder.l0 kq t313 t315 t318 x7_1 = some r) ∧ Aside0 (kq ≤ k) ∧ Aside0 (Kd.S (Kd.slice 4 Kd.bool) 34 w' w.heap.size (fun k_ => some k_ ≠ ((.slice Ao17 t318.length co17) : Value).ownBlock) (.slice Ao16 t315.length co16) t315) ∧ Aside0 (Kd.R Kd.bool 4 w' w.heap.size (fun _ => True) (.slice Ao17 t318.length co17) t318) ∧ Aside0 (w'.heap[gb312]? = some (.cells #[.int .i64 a0_0, .int .i64 a0_1, (.slice A0_2 l0_2.length c0_2), (.slice A0_3 l0_3.length c0_3)] 25 (0, 0))) ∧ Aside0 (Below w.heap.size w w'))
      case atStart => exact ⟨(0), (by first | rfl | (simp; done) | (simp [*]; done)), H', ⟨Nat.le_refl _⟩, ⟨by (with_reducible repeat (first | apply S_alloc | apply S_drewN | apply S_drew)); exact S_mono HO317.out (fun _ hk => hk.2)⟩, ⟨by (with_reducible repeat (first | apply R_alloc | apply R_drewN | apply R_drew)); exact HO320.out⟩, ⟨by (with_reducible repeat (first | refine blk_drewN ?_ _ | refine blk_drew ?_ | refine blk_alloc ?_ _)); exact BK312.out⟩, ⟨by repeat (first | (with_reducible first | exact HB.out | apply below_alloc | apply pw_below_drewN | apply below_drew1 | refine below_set ?_ GE312.out) | exact HB.out)⟩⟩
      clear H'
      try clear p2
      try clear c4
      try clear c7
      try clear c7b0
      try clear c7b1
      try clear c7b2
      try clear hcz10_0
      try clear hcz10_1
      try clear hcz10_2
      try clear hcz10_3
      try clear hcz12_0
      try clear hcz12_1
      try clear hcz12_2
      try clear hcz12_3
      try clear hcz14_0
      try clear hcz14_1
      try clear hcz14_2
      try clear hcz14_3
      try clear hfz10_0
      try clear hfz10_1
      try clear hfz10_2
      try clear hfz10_3
      try clear hfz12_0
      try clear hfz12_1
      try clear hfz12_2
      try clear hfz12_3
      try clear hfz14_0
      try clear hfz14_1
      try clear hfz14_2
      try clear hfz14_3
      obtain ⟨x7_1, rfl, HA, HK1, HO_5, HO_6, BK312, HB⟩ := hrel
      rcases gk with _ | k1
      · exact absurd HA.out (by simp [fettlelaw06_DomOrder.l0])
      have H := HA.out
      clear HA
      simp only [fettlelaw06_DomOrder.l0] at H
      by_cases c18 : x7_1 < (t315.length : Int)
      · rw [if_pos c18] at H
        have c18b0 : decide (x7_1 < (t315.length : Int)) = true := decide_eq_true c18
        clear c18
        by_cases c19 : 0 ≤ x7_1
        rotate_left
        · rw [if_neg c19] at H
          exact absurd H (by simp)
        rw [if_pos c19] at H
        have c19b0 : decide (0 ≤ x7_1) = true := decide_eq_true c19
        clear c19
        by_cases c20 : ((rd_L11 t315 x7_1).length : Int) = (t318.length : Int)
        · rw [if_pos c20] at H
          have c20b0 : (((rd_L11 t315 x7_1).length : Int) == (t318.length : Int)) = true := beq_iff_eq.mpr c20
          have c20b1 : (((rd_L11 t315 x7_1).length : Int) != (t318.length : Int)) = false := bne_eq_false_iff_eq.mpr c20
          have c20b2 : ((rd_L11 t315 x7_1).length == t318.length) = true := by first | simpa using c20 | (simp at c20 ⊢; omega)
          clear c20
          have H' := Aside0.mk H
          clear H
          have p321 : 0 ≤ (x7_1 : Int) := of_decide_eq_true (by with_reducible assumption)
          have q321 : x7_1 < (t315.length : Int) := of_decide_eq_true (by with_reducible assumption)
          obtain ⟨ad321, A321_0, c321_0, e321, hx321_0, hl321_0, hi321_0⟩ := at_L11 (S_reads' HO_5.out).2.2 x7_1 p321 q321
          cases e321
          obtain ⟨ce321, hce321, hMe321, hcc321⟩ := S_get HO_5.out [] x7_1 p321 (by first | exact q321 | exact of_decide_eq_true (by with_reducible assumption) | (have e_ := (S_reads' HO_5.out).1; omega))
          obtain ⟨ve321_0, rfl, ge321_0⟩ := hMe321
          have hv321_0 := hcc321 0 _ rfl
          rw [Nat.add_zero, show ((Kd.slice 4 Kd.bool)).sz = 1 from rfl, Nat.mul_one] at hv321_0
          replace hv321_0 := Option.some.inj (hv321_0.symm.trans hx321_0)
          rw [hv321_0] at ge321_0
          have HL321_0 := Aside0.mk (show Kd.R Kd.bool 4 _ _ _ _ (rd_L11 t315 x7_1) from ge321_0)
          clear hv321_0 ge321_0
          clear hcc321 hce321
          have HR321_0 := Aside0.mk hi321_0
          have HC321_0 := Aside0.mk hl321_0
          clear hi321_0 hl321_0
          replace p321 := eq_true p321
          replace q321 := eq_true q321
          go_wp2
          repeat (go_quiet (fail); try go_wp2)
          go_roundg k1
          case measure => have := HK1.out; omega
          case rel => exact ⟨(wrap64 (x7_1 + 1)), (by first | rfl | (simp; done) | (simp [*]; done)), H', ⟨by have := HK1.out; omega⟩, ⟨by (with_reducible repeat (first | apply S_alloc | apply S_drewN | apply S_drew)); exact HO_5.out⟩, ⟨by (with_reducible repeat (first | apply R_alloc | apply R_drewN | apply R_drew)); exact HO_6.out⟩, ⟨by (with_reducible repeat (first | refine blk_drewN ?_ _ | refine blk_drew ?_ | refine blk_alloc ?_ _)); exact BK312.out⟩, ⟨by repeat (first | (with_reducible first | exact HB.out | apply below_alloc | apply pw_below_drewN | apply below_drew1 | refine below_set ?_ GE312.out) | exact HB.out)⟩⟩
        rw [if_neg c20] at H
        have c20b0 : (((rd_L11 t315 x7_1).length : Int) == (t318.length : Int)) = false := beq_eq_false_iff_ne.mpr c20
        have c20b1 : (((rd_L11 t315 x7_1).length : Int) != (t318.length : Int)) = true := bne_iff_ne.mpr c20
        have c20b2 : ((rd_L11 t315 x7_1).length == t318.length) = false := by first | simpa using c20 | (simp at c20 ⊢; omega)
        obtain rfl := Option.some.inj H
        have p321 : 0 ≤ (x7_1 : Int) := of_decide_eq_true (by with_reducible assumption)
        have q321 : x7_1 < (t315.length : Int) := of_decide_eq_true (by with_reducible assumption)
        obtain ⟨ad321, A321_0, c321_0, e321, hx321_0, hl321_0, hi321_0⟩ := at_L11 (S_reads' HO_5.out).2.2 x7_1 p321 q321
        cases e321
        obtain ⟨ce321, hce321, hMe321, hcc321⟩ := S_get HO_5.out [] x7_1 p321 (by first | exact q321 | exact of_decide_eq_true (by with_reducible assumption) | (have e_ := (S_reads' HO_5.out).1; omega))
        obtain ⟨ve321_0, rfl, ge321_0⟩ := hMe321
        have hv321_0 := hcc321 0 _ rfl
        rw [Nat.add_zero, show ((Kd.slice 4 Kd.bool)).sz = 1 from rfl, Nat.mul_one] at hv321_0
        replace hv321_0 := Option.some.inj (hv321_0.symm.trans hx321_0)
        rw [hv321_0] at ge321_0
        have HL321_0 := Aside0.mk (show Kd.R Kd.bool 4 _ _ _ _ (rd_L11 t315 x7_1) from ge321_0)
        clear hv321_0 ge321_0
        clear hcc321 hce321
        have HR321_0 := Aside0.mk hi321_0
        have HC321_0 := Aside0.mk hl321_0
        clear hi321_0 hl321_0
        replace p321 := eq_true p321
        replace q321 := eq_true q321
        go_wp2
        repeat (go_quiet (fail); try go_wp2)
        go_ret
        exact ⟨by first | rfl | (simp [errW_none, errW_some] <;> rfl) | (simp [*, errW_none, errW_some] <;> rfl), by repeat (first | (with_reducible first | exact HB.out | apply below_alloc | apply pw_below_drewN | apply below_drew1 | refine below_set ?_ GE312.out) | exact HB.out)⟩
      rw [if_neg c18] at H
      have c18b0 : decide (x7_1 < (t315.length : Int)) = false := decide_eq_false c18
      clear c18
      have H' := Aside0.mk H
      clear H
      go_wp2
      repeat (go_quiet (fail); try go_wp2)
      go_loopg [8] k1 (fun kq v8 w' => ∃ (x8_2 : Int), v8 = .int .i64 x8_2 ∧ Aside0 (fettlelaw06_DomOrder.l1 kq t313 t315 t318 x8_2 = some r) ∧ Aside0 (kq ≤ k1) ∧ Aside0 (Kd.S (Kd.slice 4 Kd.bool) 34 w' w.heap.size (fun k_ => some k_ ≠ ((.slice Ao17 t318.length co17) : Value).ownBlock) (.slice Ao16 t315.length co16) t315) ∧ Aside0 (Kd.R Kd.bool 4 w' w.heap.size (fun _ => True) (.slice Ao17 t318.length co17) t318) ∧ Aside0 (w'.heap[gb312]? = some (.cells #[.int .i64 a0_0, .int .i64 a0_1, (.slice A0_2 l0_2.length c0_2), (.slice A0_3 l0_3.length c0_3)] 25 (0, 0))) ∧ Aside0 (Below w.heap.size w w'))
      case atStart => exact ⟨(0), (by first | rfl | (simp; done) | (simp [*]; done)), H', ⟨Nat.le_refl _⟩, ⟨by (with_reducible repeat (first | apply S_alloc | apply S_drewN | apply S_drew)); exact HO_5.out⟩, ⟨by (with_reducible repeat (first | apply R_alloc | apply R_drewN | apply R_drew)); exact HO_6.out⟩, ⟨by (with_reducible repeat (first | refine blk_drewN ?_ _ | refine blk_drew ?_ | refine blk_alloc ?_ _)); exact BK312.out⟩, ⟨by repeat (first | (with_reducible first | exact HB.out | apply below_alloc | apply pw_below_drewN | apply below_drew1 | refine below_set ?_ GE312.out) | exact HB.out)⟩⟩
      clear H'
      try clear c1
      try clear c2
      try clear p2
      try clear c3
      try clear p3
      try clear q3
      try clear hx3
      try clear c4
      try clear p6
      try clear c7
      try clear c7b0
      try clear c7b1
      try clear c7b2
      try clear c18
      try clear c18b0
      try clear c19
      try clear c19b0
      try clear c20
      try clear c20b0
      try clear c20b1
      try clear c20b2
      try clear hcz10_0
      try clear hcz10_1
      try clear hcz10_2
      try clear hcz10_3
      try clear hcz12_0
      try clear hcz12_1
      try clear hcz12_2
      try clear hcz12_3
      try clear hcz14_0
      try clear hcz14_1
      try clear hcz14_2
      try clear hcz14_3
      try clear hfz10_0
      try clear hfz10_1
      try clear hfz10_2
      try clear hfz10_3
      try clear hfz12_0
      try clear hfz12_1
      try clear hfz12_2
      try clear hfz12_3
      try clear hfz14_0
      try clear hfz14_1
      try clear hfz14_2
      try clear hfz14_3
      try clear hx321_0
      try clear p2
      try clear p321
      try clear q321
      obtain ⟨x8_2, rfl, HA, HK2, HO_5, HO_6, BK312, HB⟩ := hrel
      rcases gk with _ | k2
      · exact absurd HA.out (by simp [fettlelaw06_DomOrder.l1])
      have H := HA.out
      clear HA
      simp only [fettlelaw06_DomOrder.l1] at H
      by_cases c21 : x8_2 < (t315.length : Int)
      rotate_left
      · rw [if_neg c21] at H
        have c21b0 : decide (x8_2 < (t315.length : Int)) = false := decide_eq_false c21
        clear c21
        obtain rfl := Option.some.inj H
        go_wp2
        repeat (go_quiet (fail); try go_wp2)
        go_ret
        exact ⟨by first | rfl | (simp [errW_none, errW_some] <;> rfl) | (simp [*, errW_none, errW_some] <;> rfl), by repeat (first | (with_reducible first | exact HB.out | apply below_alloc | apply pw_below_drewN | apply below_drew1 | refine below_set ?_ GE312.out) | exact HB.out)⟩
      rw [if_pos c21] at H
      have c21b0 : decide (x8_2 < (t315.length : Int)) = true := decide_eq_true c21
      clear c21
      have HC22 := Aside0.mk H
      clear H
      go_upto_region 17 with (fail)
      repeat (go_quiet (fail); go_upto_region 17 with (fail))
      go_cut [70] (fun v70 wc => ∃ (kq : Nat) (x70_21 : Bool), v70 = .bool x70_21 ∧ Aside0 (fettlelaw06_DomOrder.j2 kq t313 t315 t318 x8_2 x70_21 = some r) ∧ Aside0 (kq ≤ k2) ∧ Aside0 (Kd.S (Kd.slice 4 Kd.bool) 34 wc w.heap.size (fun k_ => some k_ ≠ ((.slice Ao17 t318.length co17) : Value).ownBlock) (.slice Ao16 t315.length co16) t315) ∧ Aside0 (Kd.R Kd.bool 4 wc w.heap.size (fun _ => True) (.slice Ao17 t318.length co17) t318) ∧ Aside0 (wc.heap[gb312]? = some (.cells #[.int .i64 a0_0, .int .i64 a0_1, (.slice A0_2 l0_2.length c0_2), (.slice A0_3 l0_3.length c0_3)] 25 (0, 0))) ∧ Aside0 (Below w.heap.size w wc))
      case first =>
        have H := HC22.out
        clear HC22
        by_cases c23 : 0 ≤ x8_2
        rotate_left
        · rw [if_neg c23] at H
          exact absurd H (by simp)
        rw [if_pos c23] at H
        have c23b0 : decide (0 ≤ x8_2) = true := decide_eq_true c23
        clear c23
        (first | rw [c23b0] | (simp only [i64_w, i32_w]; rw [c23b0]) | skip)
        by_cases c24 : x8_2 < ((rd_L11 t315 x8_2).length : Int)
        rotate_left
        · rw [if_neg c24] at H
          exact absurd H (by simp)
        rw [if_pos c24] at H
        have c24b0 : decide (x8_2 < ((rd_L11 t315 x8_2).length : Int)) = true := decide_eq_true c24
        clear c24
        by_cases c25 : x8_2 < (t318.length : Int)
        rotate_left
        · rw [if_neg c25] at H
          exact absurd H (by simp)
        rw [if_pos c25] at H
        have c25b0 : decide (x8_2 < (t318.length : Int)) = true := decide_eq_true c25
        clear c25
        by_cases c26 : ((rdOf false (rd_L11 t315 x8_2) x8_2) != (rdOf false t318 x8_2)) = true
        · rw [if_pos c26] at H
          have c26b0 : ((rdOf false (rd_L11 t315 x8_2) x8_2) != (rdOf false t318 x8_2)) = true := c26
          (try (have c26b1 : decide ((rdOf false (rd_L11 t315 x8_2) x8_2) = (rdOf false t318 x8_2)) = false := by simpa using c26))
          (try (have c26b2 : ((rdOf false (rd_L11 t315 x8_2) x8_2) == (rdOf false t318 x8_2)) = false := by simpa using c26))
          (try (have c26b3 : ¬ ((rdOf false (rd_L11 t315 x8_2) x8_2) = (rdOf false t318 x8_2)) := by simpa using c26))
          clear c26
          have H' := Aside0.mk H
          clear H
          have p322 : 0 ≤ (x8_2 : Int) := of_decide_eq_true (by with_reducible assumption)
          have q322 : x8_2 < (t315.length : Int) := of_decide_eq_true (by with_reducible assumption)
          obtain ⟨ad322, A322_0, c322_0, e322, hx322_0, hl322_0, hi322_0⟩ := at_L11 (S_reads' HO_5.out).2.2 x8_2 p322 q322
          cases e322
          obtain ⟨ce322, hce322, hMe322, hcc322⟩ := S_get HO_5.out [] x8_2 p322 (by first | exact q322 | exact of_decide_eq_true (by with_reducible assumption) | (have e_ := (S_reads' HO_5.out).1; omega))
          obtain ⟨ve322_0, rfl, ge322_0⟩ := hMe322
          have hv322_0 := hcc322 0 _ rfl
          rw [Nat.add_zero, show ((Kd.slice 4 Kd.bool)).sz = 1 from rfl, Nat.mul_one] at hv322_0
          replace hv322_0 := Option.some.inj (hv322_0.symm.trans hx322_0)
          rw [hv322_0] at ge322_0
          have HL322_0 := Aside0.mk (show Kd.R Kd.bool 4 _ _ _ _ (rd_L11 t315 x8_2) from ge322_0)
          clear hv322_0 ge322_0
          clear hcc322 hce322
          have HR322_0 := Aside0.mk hi322_0
          have HC322_0 := Aside0.mk hl322_0
          clear hi322_0 hl322_0
          replace p322 := eq_true p322
          replace q322 := eq_true q322
          have p323 : 0 ≤ (x8_2 : Int) := of_decide_eq_true (by with_reducible assumption)
          have q323 : x8_2 < ((rd_L11 t315 x8_2).length : Int) := of_decide_eq_true (by with_reducible assumption)
          obtain ⟨ad323, e323, hx323_0⟩ := Kd.at_bool (by repeat with_reducible first | exact HR322_0.out | refine C_alloc ?_ _ | refine C_drewN ?_ _ | refine C_drew ?_) x8_2 p323 q323
          cases e323
          replace p323 := eq_true p323
          replace q323 := eq_true q323
          have p324 : 0 ≤ (x8_2 : Int) := of_decide_eq_true (by with_reducible assumption)
          have q324 : x8_2 < (t318.length : Int) := of_decide_eq_true (by with_reducible assumption)
          obtain ⟨ad324, e324, hx324_0⟩ := Kd.at_bool (R_reads' HO_6.out).2.2 x8_2 p324 q324
          cases e324
          replace p324 := eq_true p324
          replace q324 := eq_true q324
          go_wp2
          repeat (go_quiet (fail); try go_wp2)
          go_meet
          case rel => exact ⟨_, (true), (by first | rfl | (simp; done) | (simp [*]; done)), H', ⟨by have := HK1.out; have := HK2.out; first | omega | exact Nat.le_refl _⟩, ⟨by (with_reducible repeat (first | apply S_alloc | apply S_drewN | apply S_drew)); exact HO_5.out⟩, ⟨by (with_reducible repeat (first | apply R_alloc | apply R_drewN | apply R_drew)); exact HO_6.out⟩, ⟨by (with_reducible repeat (first | refine blk_drewN ?_ _ | refine blk_drew ?_ | refine blk_alloc ?_ _)); exact BK312.out⟩, ⟨by repeat (first | (with_reducible first | exact HB.out | apply below_alloc | apply pw_below_drewN | apply below_drew1 | refine below_set ?_ GE312.out) | exact HB.out)⟩⟩
        rw [if_neg c26] at H
        have c26b0 : ((rdOf false (rd_L11 t315 x8_2) x8_2) != (rdOf false t318 x8_2)) = false := by simpa using c26
        (try (have c26b1 : decide ((rdOf false (rd_L11 t315 x8_2) x8_2) = (rdOf false t318 x8_2)) = true := by simpa using c26))
        (try (have c26b2 : ((rdOf false (rd_L11 t315 x8_2) x8_2) == (rdOf false t318 x8_2)) = true := by simpa using c26))
        clear c26
        by_cases c27 : 0 < (t315.length : Int)
        rotate_left
        · rw [if_neg c27] at H
          exact absurd H (by simp)
        rw [if_pos c27] at H
        have c27b0 : decide (0 < (t315.length : Int)) = true := decide_eq_true c27
        have c27b1 : decide (0 < t315.length) = true := decide_eq_true (by omega)
        clear c27
        by_cases c28 : x8_2 < ((rd_L11 t315 0).length : Int)
        rotate_left
        · rw [if_neg c28] at H
          exact absurd H (by simp)
        rw [if_pos c28] at H
        have c28b0 : decide (x8_2 < ((rd_L11 t315 0).length : Int)) = true := decide_eq_true c28
        clear c28
        have H' := Aside0.mk H
        clear H
        have p322 : 0 ≤ (x8_2 : Int) := of_decide_eq_true (by with_reducible assumption)
        have q322 : x8_2 < (t315.length : Int) := of_decide_eq_true (by with_reducible assumption)
        obtain ⟨ad322, A322_0, c322_0, e322, hx322_0, hl322_0, hi322_0⟩ := at_L11 (S_reads' HO_5.out).2.2 x8_2 p322 q322
        cases e322
        obtain ⟨ce322, hce322, hMe322, hcc322⟩ := S_get HO_5.out [] x8_2 p322 (by first | exact q322 | exact of_decide_eq_true (by with_reducible assumption) | (have e_ := (S_reads' HO_5.out).1; omega))
        obtain ⟨ve322_0, rfl, ge322_0⟩ := hMe322
        have hv322_0 := hcc322 0 _ rfl
        rw [Nat.add_zero, show ((Kd.slice 4 Kd.bool)).sz = 1 from rfl, Nat.mul_one] at hv322_0
        replace hv322_0 := Option.some.inj (hv322_0.symm.trans hx322_0)
        rw [hv322_0] at ge322_0
        have HL322_0 := Aside0.mk (show Kd.R Kd.bool 4 _ _ _ _ (rd_L11 t315 x8_2) from ge322_0)
        clear hv322_0 ge322_0
        clear hcc322 hce322
        have HR322_0 := Aside0.mk hi322_0
        have HC322_0 := Aside0.mk hl322_0
        clear hi322_0 hl322_0
        replace p322 := eq_true p322
        replace q322 := eq_true q322
        have p323 : 0 ≤ (x8_2 : Int) := of_decide_eq_true (by with_reducible assumption)
        have q323 : x8_2 < ((rd_L11 t315 x8_2).length : Int) := of_decide_eq_true (by with_reducible assumption)
        obtain ⟨ad323, e323, hx323_0⟩ := Kd.at_bool (by repeat with_reducible first | exact HR322_0.out | refine C_alloc ?_ _ | refine C_drewN ?_ _ | refine C_drew ?_) x8_2 p323 q323
        cases e323
        replace p323 := eq_true p323
        replace q323 := eq_true q323
        have p324 : 0 ≤ (x8_2 : Int) := of_decide_eq_true (by with_reducible assumption)
        have q324 : x8_2 < (t318.length : Int) := of_decide_eq_true (by with_reducible assumption)
        obtain ⟨ad324, e324, hx324_0⟩ := Kd.at_bool (R_reads' HO_6.out).2.2 x8_2 p324 q324
        cases e324
        replace p324 := eq_true p324
        replace q324 := eq_true q324
        have p325 : 0 ≤ (0 : Int) := (by omega)
        have q325 : 0 < (t315.length : Int) := of_decide_eq_true (by with_reducible assumption)
        obtain ⟨ad325, A325_0, c325_0, e325, hx325_0, hl325_0, hi325_0⟩ := at_L11 (S_reads' HO_5.out).2.2 0 p325 q325
        obtain rfl : ad322 = ad325 := (by injection e325)
        obtain ⟨ce325, hce325, hMe325, hcc325⟩ := S_get HO_5.out [] 0 p325 (by first | exact q325 | exact of_decide_eq_true (by with_reducible assumption) | (have e_ := (S_reads' HO_5.out).1; omega))
        obtain ⟨ve325_0, rfl, ge325_0⟩ := hMe325
        have hv325_0 := hcc325 0 _ rfl
        rw [Nat.add_zero, show ((Kd.slice 4 Kd.bool)).sz = 1 from rfl, Nat.mul_one] at hv325_0
        replace hv325_0 := Option.some.inj (hv325_0.symm.trans hx325_0)
        rw [hv325_0] at ge325_0
        have HL325_0 := Aside0.mk (show Kd.R Kd.bool 4 _ _ _ _ (rd_L11 t315 0) from ge325_0)
        clear hv325_0 ge325_0
        clear hcc325 hce325
        have qi325 : (0 < t315.length) = True := eq_true (by omega)
        (try rw [show ((0 : Int)).toNat = 0 from rfl] at hx325_0)
        (try rw [Addr.add_zero'] at hx325_0)
        have HR325_0 := Aside0.mk hi325_0
        have HC325_0 := Aside0.mk hl325_0
        clear hi325_0 hl325_0
        replace p325 := eq_true p325
        replace q325 := eq_true q325
        have p326 : 0 ≤ (x8_2 : Int) := of_decide_eq_true (by with_reducible assumption)
        have q326 : x8_2 < ((rd_L11 t315 0).length : Int) := of_decide_eq_true (by with_reducible assumption)
        obtain ⟨ad326, e326, hx326_0⟩ := Kd.at_bool (by repeat with_reducible first | exact HR325_0.out | refine C_alloc ?_ _ | refine C_drewN ?_ _ | refine C_drew ?_) x8_2 p326 q326
        cases e326
        replace p326 := eq_true p326
        replace q326 := eq_true q326
        have p327 : 0 ≤ (x8_2 : Int) := of_decide_eq_true (by with_reducible assumption)
        have q327 : x8_2 < (t318.length : Int) := of_decide_eq_true (by with_reducible assumption)
        obtain ⟨ad327, e327, hx327_0⟩ := Kd.at_bool (R_reads' HO_6.out).2.2 x8_2 p327 q327
        obtain rfl : ad324 = ad327 := (by injection e327)
        replace p327 := eq_true p327
        replace q327 := eq_true q327
        go_wp2
        repeat (go_quiet (fail); try go_wp2)
        go_meet
        case rel => exact ⟨_, (((rdOf false (rd_L11 t315 0) x8_2) != (rdOf false t318 x8_2))), (by first | rfl | (simp; done) | (simp [*]; done)), H', ⟨by have := HK1.out; have := HK2.out; first | omega | exact Nat.le_refl _⟩, ⟨by (with_reducible repeat (first | apply S_alloc | apply S_drewN | apply S_drew)); exact HO_5.out⟩, ⟨by (with_reducible repeat (first | apply R_alloc | apply R_drewN | apply R_drew)); exact HO_6.out⟩, ⟨by (with_reducible repeat (first | refine blk_drewN ?_ _ | refine blk_drew ?_ | refine blk_alloc ?_ _)); exact BK312.out⟩, ⟨by repeat (first | (with_reducible first | exact HB.out | apply below_alloc | apply pw_below_drewN | apply below_drew1 | refine below_set ?_ GE312.out) | exact HB.out)⟩⟩
      clear HC22
      try clear c1
      try clear c2
      try clear p2
      try clear c3
      try clear p3
      try clear q3
      try clear hx3
      try clear qi3
      try clear c4
      try clear p6
      try clear c7
      try clear c7b0
      try clear c7b1
      try clear c7b2
      try clear c18
      try clear c18b0
      try clear c19
      try clear c19b0
      try clear c20
      try clear c20b0
      try clear c20b1
      try clear c20b2
      try clear c21
      try clear c21b0
      try clear c23
      try clear c23b0
      try clear c24
      try clear c24b0
      try clear c25
      try clear c25b0
      try clear c26
      try clear c26b0
      try clear c26b1
      try clear c26b2
      try clear c27
      try clear c27b0
      try clear c27b1
      try clear c28
      try clear c28b0
      try clear hcz10_0
      try clear hcz10_1
      try clear hcz10_2
      try clear hcz10_3
      try clear hcz12_0
      try clear hcz12_1
      try clear hcz12_2
      try clear hcz12_3
      try clear hcz14_0
      try clear hcz14_1
      try clear hcz14_2
      try clear hcz14_3
      try clear hfz10_0
      try clear hfz10_1
      try clear hfz10_2
      try clear hfz10_3
      try clear hfz12_0
      try clear hfz12_1
      try clear hfz12_2
      try clear hfz12_3
      try clear hfz14_0
      try clear hfz14_1
      try clear hfz14_2
      try clear hfz14_3
      try clear hx321_0
      try clear hx322_0
      try clear hx323_0
      try clear hx324_0
      try clear hx325_0
      try clear hx326_0
      try clear hx327_0
      try clear p2
      try clear p3
      try clear p321
      try clear p322
      try clear p323
      try clear p324
      try clear p325
      try clear p326
      try clear p327
      try clear p6
      try clear q3
      try clear q321
      try clear q322
      try clear q323
      try clear q324
      try clear q325
      try clear q326
      try clear q327
      obtain ⟨kq, x70_21, rfl, HA, HJ21, HO_5, HO_6, BK312, HB⟩ := hcut
      rcases kq with _ | kj21
      · exact absurd HA.out (by simp [fettlelaw06_DomOrder.j2])
      have H := HA.out
      clear HA
      simp only [fettlelaw06_DomOrder.j2] at H
      by_cases c29 : x70_21 = true
      · subst c29
        have H1 : (some false) = some r := by rw [if_pos rfl] at H; exact H
        clear H
        have H := H1
        clear H1
        obtain rfl := Option.some.inj H
        go_wp2
        repeat (go_quiet (fail); try go_wp2)
        go_ret
        exact ⟨by first | rfl | (simp [errW_none, errW_some] <;> rfl) | (simp [*, errW_none, errW_some] <;> rfl), by repeat (first | (with_reducible first | exact HB.out | apply below_alloc | apply pw_below_drewN | apply below_drew1 | refine below_set ?_ GE312.out) | exact HB.out)⟩
      replace c29 := Bool.eq_false_iff.mpr c29
      subst c29
      have H1 : (fettlelaw06_DomOrder.l2 kj21 t313 t315 t318 x8_2 0) = some r := by rw [if_neg (show ¬ (false = true) by decide)] at H; exact H
      clear H
      have H := H1
      clear H1
      have H' := Aside0.mk H
      clear H
      go_wp2
      repeat (go_quiet (fail); try go_wp2)
      go_loopg [9] kj21 (fun kq v9 w' => ∃ (x9_4 : Int), v9 = .int .i64 x9_4 ∧ Aside0 (fettlelaw06_DomOrder.l2 kq t313 t315 t318 x8_2 x9_4 = some r) ∧ Aside0 (kq ≤ kj21) ∧ Aside0 (Kd.S (Kd.slice 4 Kd.bool) 34 w' w.heap.size (fun k_ => some k_ ≠ ((.slice Ao17 t318.length co17) : Value).ownBlock) (.slice Ao16 t315.length co16) t315) ∧ Aside0 (Kd.R Kd.bool 4 w' w.heap.size (fun _ => True) (.slice Ao17 t318.length co17) t318) ∧ Aside0 (w'.heap[gb312]? = some (.cells #[.int .i64 a0_0, .int .i64 a0_1, (.slice A0_2 l0_2.length c0_2), (.slice A0_3 l0_3.length c0_3)] 25 (0, 0))) ∧ Aside0 (Below w.heap.size w w'))
      case atStart => exact ⟨(0), (by first | rfl | (simp; done) | (simp [*]; done)), H', ⟨Nat.le_refl _⟩, ⟨by (with_reducible repeat (first | apply S_alloc | apply S_drewN | apply S_drew)); exact HO_5.out⟩, ⟨by (with_reducible repeat (first | apply R_alloc | apply R_drewN | apply R_drew)); exact HO_6.out⟩, ⟨by (with_reducible repeat (first | refine blk_drewN ?_ _ | refine blk_drew ?_ | refine blk_alloc ?_ _)); exact BK312.out⟩, ⟨by repeat (first | (with_reducible first | exact HB.out | apply below_alloc | apply pw_below_drewN | apply below_drew1 | refine below_set ?_ GE312.out) | exact HB.out)⟩⟩
      clear H'
      try clear c1
      try clear c2
      try clear p2
      try clear c3
      try clear p3
      try clear q3
      try clear hx3
      try clear qi3
      try clear c4
      try clear p6
      try clear c7
      try clear c7b0
      try clear c7b1
      try clear c7b2
      try clear c18
      try clear c18b0
      try clear c19
      try clear c19b0
      try clear c20
      try clear c20b0
      try clear c20b1
      try clear c20b2
      try clear c21
      try clear c21b0
      try clear c23
      try clear c23b0
      try clear c24
      try clear c24b0
      try clear c25
      try clear c25b0
      try clear c26
      try clear c26b0
      try clear c26b1
      try clear c26b2
      try clear c27
      try clear c27b0
      try clear c27b1
      try clear c28
      try clear c28b0
      try clear c29
      try clear hcz10_0
      try clear hcz10_1
      try clear hcz10_2
      try clear hcz10_3
      try clear hcz12_0
      try clear hcz12_1
      try clear hcz12_2
      try clear hcz12_3
      try clear hcz14_0
      try clear hcz14_1
      try clear hcz14_2
      try clear hcz14_3
      try clear hfz10_0
      try clear hfz10_1
      try clear hfz10_2
      try clear hfz10_3
      try clear hfz12_0
      try clear hfz12_1
      try clear hfz12_2
      try clear hfz12_3
      try clear hfz14_0
      try clear hfz14_1
      try clear hfz14_2
      try clear hfz14_3
      try clear hx321_0
      try clear hx322_0
      try clear hx323_0
      try clear hx324_0
      try clear hx325_0
      try clear hx326_0
      try clear hx327_0
      try clear p2
      try clear p3
      try clear p321
      try clear p322
      try clear p323
      try clear p324
      try clear p325
      try clear p326
      try clear p327
      try clear p6
      try clear q3
      try clear q321
      try clear q322
      try clear q323
      try clear q324
      try clear q325
      try clear q326
      try clear q327
      obtain ⟨x9_4, rfl, HA, HK4, HO_5, HO_6, BK312, HB⟩ := hrel
      rcases gk with _ | k4
      · exact absurd HA.out (by simp [fettlelaw06_DomOrder.l2])
      have H := HA.out
      clear HA
      simp only [fettlelaw06_DomOrder.l2] at H
      by_cases c30 : x9_4 < (t315.length : Int)
      · rw [if_pos c30] at H
        have c30b0 : decide (x9_4 < (t315.length : Int)) = true := decide_eq_true c30
        clear c30
        have HC31 := Aside0.mk H
        clear H
        go_upto_region 22 with (fail)
        repeat (go_quiet (fail); go_upto_region 22 with (fail))
        go_cut [97] (fun v97 wc => ∃ (kq : Nat) (x97_30 : Bool), v97 = .bool x97_30 ∧ Aside0 (fettlelaw06_DomOrder.j4 kq t313 t315 t318 x8_2 x9_4 x97_30 = some r) ∧ Aside0 (kq ≤ k4) ∧ Aside0 (Kd.S (Kd.slice 4 Kd.bool) 34 wc w.heap.size (fun k_ => some k_ ≠ ((.slice Ao17 t318.length co17) : Value).ownBlock) (.slice Ao16 t315.length co16) t315) ∧ Aside0 (Kd.R Kd.bool 4 wc w.heap.size (fun _ => True) (.slice Ao17 t318.length co17) t318) ∧ Aside0 (wc.heap[gb312]? = some (.cells #[.int .i64 a0_0, .int .i64 a0_1, (.slice A0_2 l0_2.length c0_2), (.slice A0_3 l0_3.length c0_3)] 25 (0, 0))) ∧ Aside0 (Below w.heap.size w wc))
        case first =>
          have H := HC31.out
          clear HC31
          by_cases c32 : x8_2 = x9_4
          · rw [if_pos c32] at H
            have c32b0 : (x8_2 == x9_4) = true := beq_iff_eq.mpr c32
            have c32b1 : (x8_2 != x9_4) = false := bne_eq_false_iff_eq.mpr c32
            clear c32
            (first | rw [c32b0] | (simp only [i64_w, i32_w]; rw [c32b0]) | skip)
            have H' := Aside0.mk H
            clear H
            go_wp2
            repeat (go_quiet (fail); try go_wp2)
            go_meet
            case rel => exact ⟨_, (false), (by first | rfl | (simp; done) | (simp [*]; done)), H', ⟨by have := HK1.out; have := HK2.out; have := HJ21.out; have := HK4.out; first | omega | exact Nat.le_refl _⟩, ⟨by (with_reducible repeat (first | apply S_alloc | apply S_drewN | apply S_drew)); exact HO_5.out⟩, ⟨by (with_reducible repeat (first | apply R_alloc | apply R_drewN | apply R_drew)); exact HO_6.out⟩, ⟨by (with_reducible repeat (first | refine blk_drewN ?_ _ | refine blk_drew ?_ | refine blk_alloc ?_ _)); exact BK312.out⟩, ⟨by repeat (first | (with_reducible first | exact HB.out | apply below_alloc | apply pw_below_drewN | apply below_drew1 | refine below_set ?_ GE312.out) | exact HB.out)⟩⟩
          rw [if_neg c32] at H
          have c32b0 : (x8_2 == x9_4) = false := beq_eq_false_iff_ne.mpr c32
          have c32b1 : (x8_2 != x9_4) = true := bne_iff_ne.mpr c32
          (first | rw [c32b0] | (simp only [i64_w, i32_w]; rw [c32b0]) | skip)
          by_cases c33 : 0 ≤ x8_2
          rotate_left
          · rw [if_neg c33] at H
            exact absurd H (by simp)
          rw [if_pos c33] at H
          have c33b0 : decide (0 ≤ x8_2) = true := decide_eq_true c33
          clear c33
          by_cases c34 : x8_2 < (t315.length : Int)
          rotate_left
          · rw [if_neg c34] at H
            exact absurd H (by simp)
          rw [if_pos c34] at H
          have c34b0 : decide (x8_2 < (t315.length : Int)) = true := decide_eq_true c34
          clear c34
          by_cases c35 : 0 ≤ x9_4
          rotate_left
          · rw [if_neg c35] at H
            exact absurd H (by simp)
          rw [if_pos c35] at H
          have c35b0 : decide (0 ≤ x9_4) = true := decide_eq_true c35
          clear c35
          by_cases c36 : x9_4 < ((rd_L11 t315 x8_2).length : Int)
          rotate_left
          · rw [if_neg c36] at H
            exact absurd H (by simp)
          rw [if_pos c36] at H
          have c36b0 : decide (x9_4 < ((rd_L11 t315 x8_2).length : Int)) = true := decide_eq_true c36
          clear c36
          obtain ⟨bq37, hbq37⟩ : ∃ b_ : Bool, b_ = (rdOf false (rd_L11 t315 x8_2) x9_4) := ⟨_, rfl⟩
          replace H : (if bq37 = true then (if x8_2 < ((rd_L11 t315 x9_4).length : Int) then (fettlelaw06_DomOrder.j4 k4 t313 t315 t318 x8_2 x9_4 (rdOf false (rd_L11 t315 x9_4) x8_2)) else (none)) else (fettlelaw06_DomOrder.j4 k4 t313 t315 t318 x8_2 x9_4 false)) = some r := by rw [← hbq37] at H; exact H
          have Nbq37 := Aside0.mk hbq37
          clear hbq37
          by_cases c38 : bq37 = true
          · subst c38
            have H1 : (if x8_2 < ((rd_L11 t315 x9_4).length : Int) then (fettlelaw06_DomOrder.j4 k4 t313 t315 t318 x8_2 x9_4 (rdOf false (rd_L11 t315 x9_4) x8_2)) else (none)) = some r := by rw [if_pos rfl] at H; exact H
            clear H
            have H := H1
            clear H1
            by_cases c39 : x8_2 < ((rd_L11 t315 x9_4).length : Int)
            rotate_left
            · rw [if_neg c39] at H
              exact absurd H (by simp)
            rw [if_pos c39] at H
            have c39b0 : decide (x8_2 < ((rd_L11 t315 x9_4).length : Int)) = true := decide_eq_true c39
            clear c39
            have H' := Aside0.mk H
            clear H
            have p328 : 0 ≤ (x8_2 : Int) := of_decide_eq_true (by with_reducible assumption)
            have q328 : x8_2 < (t315.length : Int) := of_decide_eq_true (by with_reducible assumption)
            obtain ⟨ad328, A328_0, c328_0, e328, hx328_0, hl328_0, hi328_0⟩ := at_L11 (S_reads' HO_5.out).2.2 x8_2 p328 q328
            cases e328
            obtain ⟨ce328, hce328, hMe328, hcc328⟩ := S_get HO_5.out [] x8_2 p328 (by first | exact q328 | exact of_decide_eq_true (by with_reducible assumption) | (have e_ := (S_reads' HO_5.out).1; omega))
            obtain ⟨ve328_0, rfl, ge328_0⟩ := hMe328
            have hv328_0 := hcc328 0 _ rfl
            rw [Nat.add_zero, show ((Kd.slice 4 Kd.bool)).sz = 1 from rfl, Nat.mul_one] at hv328_0
            replace hv328_0 := Option.some.inj (hv328_0.symm.trans hx328_0)
            rw [hv328_0] at ge328_0
            have HL328_0 := Aside0.mk (show Kd.R Kd.bool 4 _ _ _ _ (rd_L11 t315 x8_2) from ge328_0)
            clear hv328_0 ge328_0
            clear hcc328 hce328
            have HR328_0 := Aside0.mk hi328_0
            have HC328_0 := Aside0.mk hl328_0
            clear hi328_0 hl328_0
            replace p328 := eq_true p328
            replace q328 := eq_true q328
            have p329 : 0 ≤ (x9_4 : Int) := of_decide_eq_true (by with_reducible assumption)
            have q329 : x9_4 < ((rd_L11 t315 x8_2).length : Int) := of_decide_eq_true (by with_reducible assumption)
            obtain ⟨ad329, e329, hx329_0⟩ := Kd.at_bool (by repeat with_reducible first | exact HR328_0.out | refine C_alloc ?_ _ | refine C_drewN ?_ _ | refine C_drew ?_) x9_4 p329 q329
            (try rw [← Nbq37.out] at hx329_0)
            cases e329
            replace p329 := eq_true p329
            replace q329 := eq_true q329
            have p330 : 0 ≤ (x9_4 : Int) := of_decide_eq_true (by with_reducible assumption)
            have q330 : x9_4 < (t315.length : Int) := of_decide_eq_true (by with_reducible assumption)
            obtain ⟨ad330, A330_0, c330_0, e330, hx330_0, hl330_0, hi330_0⟩ := at_L11 (S_reads' HO_5.out).2.2 x9_4 p330 q330
            obtain rfl : ad328 = ad330 := (by injection e330)
            obtain ⟨ce330, hce330, hMe330, hcc330⟩ := S_get HO_5.out [] x9_4 p330 (by first | exact q330 | exact of_decide_eq_true (by with_reducible assumption) | (have e_ := (S_reads' HO_5.out).1; omega))
            obtain ⟨ve330_0, rfl, ge330_0⟩ := hMe330
            have hv330_0 := hcc330 0 _ rfl
            rw [Nat.add_zero, show ((Kd.slice 4 Kd.bool)).sz = 1 from rfl, Nat.mul_one] at hv330_0
            replace hv330_0 := Option.some.inj (hv330_0.symm.trans hx330_0)
            rw [hv330_0] at ge330_0
            have HL330_0 := Aside0.mk (show Kd.R Kd.bool 4 _ _ _ _ (rd_L11 t315 x9_4) from ge330_0)
            clear hv330_0 ge330_0
            clear hcc330 hce330
            have HR330_0 := Aside0.mk hi330_0
            have HC330_0 := Aside0.mk hl330_0
            clear hi330_0 hl330_0
            replace p330 := eq_true p330
            replace q330 := eq_true q330
            have p331 : 0 ≤ (x8_2 : Int) := of_decide_eq_true (by with_reducible assumption)
            have q331 : x8_2 < ((rd_L11 t315 x9_4).length : Int) := of_decide_eq_true (by with_reducible assumption)
            obtain ⟨ad331, e331, hx331_0⟩ := Kd.at_bool (by repeat with_reducible first | exact HR330_0.out | refine C_alloc ?_ _ | refine C_drewN ?_ _ | refine C_drew ?_) x8_2 p331 q331
            (try rw [← Nbq37.out] at hx331_0)
            cases e331
            replace p331 := eq_true p331
            replace q331 := eq_true q331
            go_wp2
            repeat (go_quiet (fail); try go_wp2)
            go_meet
            case rel => exact ⟨_, (rdOf false (rd_L11 t315 x9_4) x8_2), (by first | rfl | (simp; done) | (simp [*]; done)), H', ⟨by have := HK1.out; have := HK2.out; have := HJ21.out; have := HK4.out; first | omega | exact Nat.le_refl _⟩, ⟨by (with_reducible repeat (first | apply S_alloc | apply S_drewN | apply S_drew)); exact HO_5.out⟩, ⟨by (with_reducible repeat (first | apply R_alloc | apply R_drewN | apply R_drew)); exact HO_6.out⟩, ⟨by (with_reducible repeat (first | refine blk_drewN ?_ _ | refine blk_drew ?_ | refine blk_alloc ?_ _)); exact BK312.out⟩, ⟨by repeat (first | (with_reducible first | exact HB.out | apply below_alloc | apply pw_below_drewN | apply below_drew1 | refine below_set ?_ GE312.out) | exact HB.out)⟩⟩
          replace c38 := Bool.eq_false_iff.mpr c38
          subst c38
          have H1 : (fettlelaw06_DomOrder.j4 k4 t313 t315 t318 x8_2 x9_4 false) = some r := by rw [if_neg (show ¬ (false = true) by decide)] at H; exact H
          clear H
          have H := H1
          clear H1
          have H' := Aside0.mk H
          clear H
          have p328 : 0 ≤ (x8_2 : Int) := of_decide_eq_true (by with_reducible assumption)
          have q328 : x8_2 < (t315.length : Int) := of_decide_eq_true (by with_reducible assumption)
          obtain ⟨ad328, A328_0, c328_0, e328, hx328_0, hl328_0, hi328_0⟩ := at_L11 (S_reads' HO_5.out).2.2 x8_2 p328 q328
          cases e328
          obtain ⟨ce328, hce328, hMe328, hcc328⟩ := S_get HO_5.out [] x8_2 p328 (by first | exact q328 | exact of_decide_eq_true (by with_reducible assumption) | (have e_ := (S_reads' HO_5.out).1; omega))
          obtain ⟨ve328_0, rfl, ge328_0⟩ := hMe328
          have hv328_0 := hcc328 0 _ rfl
          rw [Nat.add_zero, show ((Kd.slice 4 Kd.bool)).sz = 1 from rfl, Nat.mul_one] at hv328_0
          replace hv328_0 := Option.some.inj (hv328_0.symm.trans hx328_0)
          rw [hv328_0] at ge328_0
          have HL328_0 := Aside0.mk (show Kd.R Kd.bool 4 _ _ _ _ (rd_L11 t315 x8_2) from ge328_0)
          clear hv328_0 ge328_0
          clear hcc328 hce328
          have HR328_0 := Aside0.mk hi328_0
          have HC328_0 := Aside0.mk hl328_0
          clear hi328_0 hl328_0
          replace p328 := eq_true p328
          replace q328 := eq_true q328
          have p329 : 0 ≤ (x9_4 : Int) := of_decide_eq_true (by with_reducible assumption)
          have q329 : x9_4 < ((rd_L11 t315 x8_2).length : Int) := of_decide_eq_true (by with_reducible assumption)
          obtain ⟨ad329, e329, hx329_0⟩ := Kd.at_bool (by repeat with_reducible first | exact HR328_0.out | refine C_alloc ?_ _ | refine C_drewN ?_ _ | refine C_drew ?_) x9_4 p329 q329
          (try rw [← Nbq37.out] at hx329_0)
          cases e329
          replace p329 := eq_true p329
          replace q329 := eq_true q329
          go_wp2
          repeat (go_quiet (fail); try go_wp2)
          go_meet
          case rel => exact ⟨_, (false), (by first | rfl | (simp; done) | (simp [*]; done)), H', ⟨by have := HK1.out; have := HK2.out; have := HJ21.out; have := HK4.out; first | omega | exact Nat.le_refl _⟩, ⟨by (with_reducible repeat (first | apply S_alloc | apply S_drewN | apply S_drew)); exact HO_5.out⟩, ⟨by (with_reducible repeat (first | apply R_alloc | apply R_drewN | apply R_drew)); exact HO_6.out⟩, ⟨by (with_reducible repeat (first | refine blk_drewN ?_ _ | refine blk_drew ?_ | refine blk_alloc ?_ _)); exact BK312.out⟩, ⟨by repeat (first | (with_reducible first | exact HB.out | apply below_alloc | apply pw_below_drewN | apply below_drew1 | refine below_set ?_ GE312.out) | exact HB.out)⟩⟩
        clear HC31
        try clear c1
        try clear c2
        try clear p2
        try clear c3
        try clear p3
        try clear q3
        try clear hx3
        try clear qi3
        try clear c4
        try clear p6
        try clear c7
        try clear c7b0
        try clear c7b1
        try clear c7b2
        try clear c18
        try clear c18b0
        try clear c19
        try clear c19b0
        try clear c20
        try clear c20b0
        try clear c20b1
        try clear c20b2
        try clear c21
        try clear c21b0
        try clear c23
        try clear c23b0
        try clear c24
        try clear c24b0
        try clear c25
        try clear c25b0
        try clear c26
        try clear c26b0
        try clear c26b1
        try clear c26b2
        try clear c27
        try clear c27b0
        try clear c27b1
        try clear c28
        try clear c28b0
        try clear c29
        try clear c30
        try clear c30b0
        try clear c32
        try clear c32b0
        try clear c32b1
        try clear p32
        try clear q32
        try clear hx32
        try clear qi32
        try clear c33
        try clear c33b0
        try clear p33
        try clear q33
        try clear hx33
        try clear c34
        try clear c34b0
        try clear c35
        try clear c35b0
        try clear c36
        try clear c36b0
        try clear q37
        try clear c38
        try clear c39
        try clear c39b0
        try clear hcz10_0
        try clear hcz10_1
        try clear hcz10_2
        try clear hcz10_3
        try clear hcz12_0
        try clear hcz12_1
        try clear hcz12_2
        try clear hcz12_3
        try clear hcz14_0
        try clear hcz14_1
        try clear hcz14_2
        try clear hcz14_3
        try clear hfz10_0
        try clear hfz10_1
        try clear hfz10_2
        try clear hfz10_3
        try clear hfz12_0
        try clear hfz12_1
        try clear hfz12_2
        try clear hfz12_3
        try clear hfz14_0
        try clear hfz14_1
        try clear hfz14_2
        try clear hfz14_3
        try clear hx321_0
        try clear hx322_0
        try clear hx323_0
        try clear hx324_0
        try clear hx325_0
        try clear hx326_0
        try clear hx327_0
        try clear hx328_0
        try clear hx329_0
        try clear hx330_0
        try clear hx331_0
        try clear p2
        try clear p3
        try clear p321
        try clear p322
        try clear p323
        try clear p324
        try clear p325
        try clear p326
        try clear p327
        try clear p328
        try clear p329
        try clear p330
        try clear p331
        try clear p6
        try clear q3
        try clear q321
        try clear q322
        try clear q323
        try clear q324
        try clear q325
        try clear q326
        try clear q327
        try clear q328
        try clear q329
        try clear q330
        try clear q331
        obtain ⟨kq, x97_30, rfl, HA, HJ30, HO_5, HO_6, BK312, HB⟩ := hcut
        rcases kq with _ | kj30
        · exact absurd HA.out (by simp [fettlelaw06_DomOrder.j4])
        have H := HA.out
        clear HA
        simp only [fettlelaw06_DomOrder.j4] at H
        by_cases c40 : x97_30 = true
        · subst c40
          have H1 : (some false) = some r := by rw [if_pos rfl] at H; exact H
          clear H
          have H := H1
          clear H1
          obtain rfl := Option.some.inj H
          go_wp2
          repeat (go_quiet (fail); try go_wp2)
          go_ret
          exact ⟨by first | rfl | (simp [errW_none, errW_some] <;> rfl) | (simp [*, errW_none, errW_some] <;> rfl), by repeat (first | (with_reducible first | exact HB.out | apply below_alloc | apply pw_below_drewN | apply below_drew1 | refine below_set ?_ GE312.out) | exact HB.out)⟩
        replace c40 := Bool.eq_false_iff.mpr c40
        subst c40
        have H1 : (fettlelaw06_DomOrder.l3 kj30 t313 t315 t318 x8_2 x9_4 0) = some r := by rw [if_neg (show ¬ (false = true) by decide)] at H; exact H
        clear H
        have H := H1
        clear H1
        have H' := Aside0.mk H
        clear H
        go_wp2
        repeat (go_quiet (fail); try go_wp2)
        go_loopg [10] kj30 (fun kq v10 w' => ∃ (x10_6 : Int), v10 = .int .i64 x10_6 ∧ Aside0 (fettlelaw06_DomOrder.l3 kq t313 t315 t318 x8_2 x9_4 x10_6 = some r) ∧ Aside0 (kq ≤ kj30) ∧ Aside0 (Kd.S (Kd.slice 4 Kd.bool) 34 w' w.heap.size (fun k_ => some k_ ≠ ((.slice Ao17 t318.length co17) : Value).ownBlock) (.slice Ao16 t315.length co16) t315) ∧ Aside0 (Kd.R Kd.bool 4 w' w.heap.size (fun _ => True) (.slice Ao17 t318.length co17) t318) ∧ Aside0 (w'.heap[gb312]? = some (.cells #[.int .i64 a0_0, .int .i64 a0_1, (.slice A0_2 l0_2.length c0_2), (.slice A0_3 l0_3.length c0_3)] 25 (0, 0))) ∧ Aside0 (Below w.heap.size w w'))
        case atStart => exact ⟨(0), (by first | rfl | (simp; done) | (simp [*]; done)), H', ⟨Nat.le_refl _⟩, ⟨by (with_reducible repeat (first | apply S_alloc | apply S_drewN | apply S_drew)); exact HO_5.out⟩, ⟨by (with_reducible repeat (first | apply R_alloc | apply R_drewN | apply R_drew)); exact HO_6.out⟩, ⟨by (with_reducible repeat (first | refine blk_drewN ?_ _ | refine blk_drew ?_ | refine blk_alloc ?_ _)); exact BK312.out⟩, ⟨by repeat (first | (with_reducible first | exact HB.out | apply below_alloc | apply pw_below_drewN | apply below_drew1 | refine below_set ?_ GE312.out) | exact HB.out)⟩⟩
        clear H'
        try clear c1
        try clear c2
        try clear p2
        try clear c3
        try clear p3
        try clear q3
        try clear hx3
        try clear qi3
        try clear c4
        try clear p6
        try clear c7
        try clear c7b0
        try clear c7b1
        try clear c7b2
        try clear c18
        try clear c18b0
        try clear c19
        try clear c19b0
        try clear c20
        try clear c20b0
        try clear c20b1
        try clear c20b2
        try clear c21
        try clear c21b0
        try clear c23
        try clear c23b0
        try clear c24
        try clear c24b0
        try clear c25
        try clear c25b0
        try clear c26
        try clear c26b0
        try clear c26b1
        try clear c26b2
        try clear c27
        try clear c27b0
        try clear c27b1
        try clear c28
        try clear c28b0
        try clear c29
        try clear c30
        try clear c30b0
        try clear c32
        try clear c32b0
        try clear c32b1
        try clear p32
        try clear q32
        try clear hx32
        try clear qi32
        try clear c33
        try clear c33b0
        try clear p33
        try clear q33
        try clear hx33
        try clear c34
        try clear c34b0
        try clear c35
        try clear c35b0
        try clear c36
        try clear c36b0
        try clear q37
        try clear c38
        try clear c39
        try clear c39b0
        try clear c40
        try clear hcz10_0
        try clear hcz10_1
        try clear hcz10_2
        try clear hcz10_3
        try clear hcz12_0
        try clear hcz12_1
        try clear hcz12_2
        try clear hcz12_3
        try clear hcz14_0
        try clear hcz14_1
        try clear hcz14_2
        try clear hcz14_3
        try clear hfz10_0
        try clear hfz10_1
        try clear hfz10_2
        try clear hfz10_3
        try clear hfz12_0
        try clear hfz12_1
        try clear hfz12_2
        try clear hfz12_3
        try clear hfz14_0
        try clear hfz14_1
        try clear hfz14_2
        try clear hfz14_3
        try clear hx321_0
        try clear hx322_0
        try clear hx323_0
        try clear hx324_0
        try clear hx325_0
        try clear hx326_0
        try clear hx327_0
        try clear hx328_0
        try clear hx329_0
        try clear hx330_0
        try clear hx331_0
        try clear p2
        try clear p3
        try clear p32
        try clear p321
        try clear p322
        try clear p323
        try clear p324
        try clear p325
        try clear p326
        try clear p327
        try clear p328
        try clear p329
        try clear p33
        try clear p330
        try clear p331
        try clear p6
        try clear q3
        try clear q32
        try clear q321
        try clear q322
        try clear q323
        try clear q324
        try clear q325
        try clear q326
        try clear q327
        try clear q328
        try clear q329
        try clear q33
        try clear q330
        try clear q331
        try clear q37
        obtain ⟨x10_6, rfl, HA, HK6, HO_5, HO_6, BK312, HB⟩ := hrel
        rcases gk with _ | k6
        · exact absurd HA.out (by simp [fettlelaw06_DomOrder.l3])
        have H := HA.out
        clear HA
        simp only [fettlelaw06_DomOrder.l3] at H
        by_cases c41 : x10_6 < (t315.length : Int)
        · rw [if_pos c41] at H
          have c41b0 : decide (x10_6 < (t315.length : Int)) = true := decide_eq_true c41
          clear c41
          by_cases c42 : 0 ≤ x8_2
          rotate_left
          · rw [if_neg c42] at H
            exact absurd H (by simp)
          rw [if_pos c42] at H
          have c42b0 : decide (0 ≤ x8_2) = true := decide_eq_true c42
          clear c42
          by_cases c43 : x8_2 < (t315.length : Int)
          rotate_left
          · rw [if_neg c43] at H
            exact absurd H (by simp)
          rw [if_pos c43] at H
          have c43b0 : decide (x8_2 < (t315.length : Int)) = true := decide_eq_true c43
          clear c43
          by_cases c44 : 0 ≤ x10_6
          rotate_left
          · rw [if_neg c44] at H
            exact absurd H (by simp)
          rw [if_pos c44] at H
          have c44b0 : decide (0 ≤ x10_6) = true := decide_eq_true c44
          clear c44
          by_cases c45 : x10_6 < ((rd_L11 t315 x8_2).length : Int)
          rotate_left
          · rw [if_neg c45] at H
            exact absurd H (by simp)
          rw [if_pos c45] at H
          have c45b0 : decide (x10_6 < ((rd_L11 t315 x8_2).length : Int)) = true := decide_eq_true c45
          clear c45
          obtain ⟨bq46, hbq46⟩ : ∃ b_ : Bool, b_ = (rdOf false (rd_L11 t315 x8_2) x10_6) := ⟨_, rfl⟩
          replace H : (if bq46 = true then (if 0 ≤ x9_4 then (if x9_4 < (t315.length : Int) then (if x10_6 < ((rd_L11 t315 x9_4).length : Int) then (if rdOf false (rd_L11 t315 x9_4) x10_6 = true then (if x9_4 < ((rd_L11 t315 x8_2).length : Int) then (if (rdOf false (rd_L11 t315 x8_2) x9_4 = true) then (fettlelaw06_DomOrder.l3 k6 t313 t315 t318 x8_2 x9_4 (wrap64 (x10_6 + 1))) else (if x8_2 < ((rd_L11 t315 x9_4).length : Int) then (if (rdOf false (rd_L11 t315 x9_4) x8_2 = true) then (fettlelaw06_DomOrder.l3 k6 t313 t315 t318 x8_2 x9_4 (wrap64 (x10_6 + 1))) else (some false)) else (none))) else (none)) else (if x9_4 < ((rd_L11 t315 x8_2).length : Int) then (if rdOf false (rd_L11 t315 x8_2) x9_4 = true then (fettlelaw06_DomOrder.l3 k6 t313 t315 t318 x8_2 x9_4 (wrap64 (x10_6 + 1))) else (fettlelaw06_DomOrder.l3 k6 t313 t315 t318 x8_2 x9_4 (wrap64 (x10_6 + 1)))) else (none))) else (none)) else (none)) else (none)) else (if 0 ≤ x9_4 then (if x9_4 < ((rd_L11 t315 x8_2).length : Int) then (if rdOf false (rd_L11 t315 x8_2) x9_4 = true then (if x9_4 < (t315.length : Int) then (if x10_6 < ((rd_L11 t315 x9_4).length : Int) then (if rdOf false (rd_L11 t315 x9_4) x10_6 = true then (some false) else (fettlelaw06_DomOrder.l3 k6 t313 t315 t318 x8_2 x9_4 (wrap64 (x10_6 + 1)))) else (none)) else (none)) else (fettlelaw06_DomOrder.l3 k6 t313 t315 t318 x8_2 x9_4 (wrap64 (x10_6 + 1)))) else (none)) else (none))) = some r := by rw [← hbq46] at H; exact H
          have Nbq46 := Aside0.mk hbq46
          clear hbq46
          by_cases c47 : bq46 = true
          · subst c47
            have H1 : (if 0 ≤ x9_4 then (if x9_4 < (t315.length : Int) then (if x10_6 < ((rd_L11 t315 x9_4).length : Int) then (if rdOf false (rd_L11 t315 x9_4) x10_6 = true then (if x9_4 < ((rd_L11 t315 x8_2).length : Int) then (if (rdOf false (rd_L11 t315 x8_2) x9_4 = true) then (fettlelaw06_DomOrder.l3 k6 t313 t315 t318 x8_2 x9_4 (wrap64 (x10_6 + 1))) else (if x8_2 < ((rd_L11 t315 x9_4).length : Int) then (if (rdOf false (rd_L11 t315 x9_4) x8_2 = true) then (fettlelaw06_DomOrder.l3 k6 t313 t315 t318 x8_2 x9_4 (wrap64 (x10_6 + 1))) else (some false)) else (none))) else (none)) else (if x9_4 < ((rd_L11 t315 x8_2).length : Int) then (if rdOf false (rd_L11 t315 x8_2) x9_4 = true then (fettlelaw06_DomOrder.l3 k6 t313 t315 t318 x8_2 x9_4 (wrap64 (x10_6 + 1))) else (fettlelaw06_DomOrder.l3 k6 t313 t315 t318 x8_2 x9_4 (wrap64 (x10_6 + 1)))) else (none))) else (none)) else (none)) else (none)) = some r := by rw [if_pos rfl] at H; exact H
            clear H
            have H := H1
            clear H1
            by_cases c48 : 0 ≤ x9_4
            rotate_left
            · rw [if_neg c48] at H
              exact absurd H (by simp)
            rw [if_pos c48] at H
            have c48b0 : decide (0 ≤ x9_4) = true := decide_eq_true c48
            clear c48
            by_cases c49 : x9_4 < (t315.length : Int)
            rotate_left
            · rw [if_neg c49] at H
              exact absurd H (by simp)
            rw [if_pos c49] at H
            have c49b0 : decide (x9_4 < (t315.length : Int)) = true := decide_eq_true c49
            clear c49
            by_cases c50 : x10_6 < ((rd_L11 t315 x9_4).length : Int)
            rotate_left
            · rw [if_neg c50] at H
              exact absurd H (by simp)
            rw [if_pos c50] at H
            have c50b0 : decide (x10_6 < ((rd_L11 t315 x9_4).length : Int)) = true := decide_eq_true c50
            clear c50
            obtain ⟨bq51, hbq51⟩ : ∃ b_ : Bool, b_ = (rdOf false (rd_L11 t315 x9_4) x10_6) := ⟨_, rfl⟩
            replace H : (if bq51 = true then (if x9_4 < ((rd_L11 t315 x8_2).length : Int) then (if (rdOf false (rd_L11 t315 x8_2) x9_4 = true) then (fettlelaw06_DomOrder.l3 k6 t313 t315 t318 x8_2 x9_4 (wrap64 (x10_6 + 1))) else (if x8_2 < ((rd_L11 t315 x9_4).length : Int) then (if (rdOf false (rd_L11 t315 x9_4) x8_2 = true) then (fettlelaw06_DomOrder.l3 k6 t313 t315 t318 x8_2 x9_4 (wrap64 (x10_6 + 1))) else (some false)) else (none))) else (none)) else (if x9_4 < ((rd_L11 t315 x8_2).length : Int) then (if rdOf false (rd_L11 t315 x8_2) x9_4 = true then (fettlelaw06_DomOrder.l3 k6 t313 t315 t318 x8_2 x9_4 (wrap64 (x10_6 + 1))) else (fettlelaw06_DomOrder.l3 k6 t313 t315 t318 x8_2 x9_4 (wrap64 (x10_6 + 1)))) else (none))) = some r := by rw [← hbq51] at H; exact H
            have Nbq51 := Aside0.mk hbq51
            clear hbq51
            by_cases c52 : bq51 = true
            · subst c52
              have H1 : (if x9_4 < ((rd_L11 t315 x8_2).length : Int) then (if (rdOf false (rd_L11 t315 x8_2) x9_4 = true) then (fettlelaw06_DomOrder.l3 k6 t313 t315 t318 x8_2 x9_4 (wrap64 (x10_6 + 1))) else (if x8_2 < ((rd_L11 t315 x9_4).length : Int) then (if (rdOf false (rd_L11 t315 x9_4) x8_2 = true) then (fettlelaw06_DomOrder.l3 k6 t313 t315 t318 x8_2 x9_4 (wrap64 (x10_6 + 1))) else (some false)) else (none))) else (none)) = some r := by rw [if_pos rfl] at H; exact H
              clear H
              have H := H1
              clear H1
              by_cases c53 : x9_4 < ((rd_L11 t315 x8_2).length : Int)
              rotate_left
              · rw [if_neg c53] at H
                exact absurd H (by simp)
              rw [if_pos c53] at H
              have c53b0 : decide (x9_4 < ((rd_L11 t315 x8_2).length : Int)) = true := decide_eq_true c53
              clear c53
              obtain ⟨bq54, hbq54⟩ : ∃ b_ : Bool, b_ = (rdOf false (rd_L11 t315 x8_2) x9_4) := ⟨_, rfl⟩
              replace H : (if (bq54 = true) then (fettlelaw06_DomOrder.l3 k6 t313 t315 t318 x8_2 x9_4 (wrap64 (x10_6 + 1))) else (if x8_2 < ((rd_L11 t315 x9_4).length : Int) then (if (rdOf false (rd_L11 t315 x9_4) x8_2 = true) then (fettlelaw06_DomOrder.l3 k6 t313 t315 t318 x8_2 x9_4 (wrap64 (x10_6 + 1))) else (some false)) else (none))) = some r := by rw [← hbq54] at H; exact H
              have Nbq54 := Aside0.mk hbq54
              clear hbq54
              by_cases c55 : (bq54 = true)
              · subst c55
                have H1 : (fettlelaw06_DomOrder.l3 k6 t313 t315 t318 x8_2 x9_4 (wrap64 (x10_6 + 1))) = some r := by rw [if_pos rfl] at H; exact H
                clear H
                have H := H1
                clear H1
                have H' := Aside0.mk H
                clear H
                have p332 : 0 ≤ (x8_2 : Int) := of_decide_eq_true (by with_reducible assumption)
                have q332 : x8_2 < (t315.length : Int) := of_decide_eq_true (by with_reducible assumption)
                obtain ⟨ad332, A332_0, c332_0, e332, hx332_0, hl332_0, hi332_0⟩ := at_L11 (S_reads' HO_5.out).2.2 x8_2 p332 q332
                cases e332
                obtain ⟨ce332, hce332, hMe332, hcc332⟩ := S_get HO_5.out [] x8_2 p332 (by first | exact q332 | exact of_decide_eq_true (by with_reducible assumption) | (have e_ := (S_reads' HO_5.out).1; omega))
                obtain ⟨ve332_0, rfl, ge332_0⟩ := hMe332
                have hv332_0 := hcc332 0 _ rfl
                rw [Nat.add_zero, show ((Kd.slice 4 Kd.bool)).sz = 1 from rfl, Nat.mul_one] at hv332_0
                replace hv332_0 := Option.some.inj (hv332_0.symm.trans hx332_0)
                rw [hv332_0] at ge332_0
                have HL332_0 := Aside0.mk (show Kd.R Kd.bool 4 _ _ _ _ (rd_L11 t315 x8_2) from ge332_0)
                clear hv332_0 ge332_0
                clear hcc332 hce332
                have HR332_0 := Aside0.mk hi332_0
                have HC332_0 := Aside0.mk hl332_0
                clear hi332_0 hl332_0
                replace p332 := eq_true p332
                replace q332 := eq_true q332
                have p333 : 0 ≤ (x10_6 : Int) := of_decide_eq_true (by with_reducible assumption)
                have q333 : x10_6 < ((rd_L11 t315 x8_2).length : Int) := of_decide_eq_true (by with_reducible assumption)
                obtain ⟨ad333, e333, hx333_0⟩ := Kd.at_bool (by repeat with_reducible first | exact HR332_0.out | refine C_alloc ?_ _ | refine C_drewN ?_ _ | refine C_drew ?_) x10_6 p333 q333
                (try rw [← Nbq46.out] at hx333_0)
                (try rw [← Nbq51.out] at hx333_0)
                (try rw [← Nbq54.out] at hx333_0)
                cases e333
                replace p333 := eq_true p333
                replace q333 := eq_true q333
                have p334 : 0 ≤ (x9_4 : Int) := of_decide_eq_true (by with_reducible assumption)
                have q334 : x9_4 < (t315.length : Int) := of_decide_eq_true (by with_reducible assumption)
                obtain ⟨ad334, A334_0, c334_0, e334, hx334_0, hl334_0, hi334_0⟩ := at_L11 (S_reads' HO_5.out).2.2 x9_4 p334 q334
                obtain rfl : ad332 = ad334 := (by injection e334)
                obtain ⟨ce334, hce334, hMe334, hcc334⟩ := S_get HO_5.out [] x9_4 p334 (by first | exact q334 | exact of_decide_eq_true (by with_reducible assumption) | (have e_ := (S_reads' HO_5.out).1; omega))
                obtain ⟨ve334_0, rfl, ge334_0⟩ := hMe334
                have hv334_0 := hcc334 0 _ rfl
                rw [Nat.add_zero, show ((Kd.slice 4 Kd.bool)).sz = 1 from rfl, Nat.mul_one] at hv334_0
                replace hv334_0 := Option.some.inj (hv334_0.symm.trans hx334_0)
                rw [hv334_0] at ge334_0
                have HL334_0 := Aside0.mk (show Kd.R Kd.bool 4 _ _ _ _ (rd_L11 t315 x9_4) from ge334_0)
                clear hv334_0 ge334_0
                clear hcc334 hce334
                have HR334_0 := Aside0.mk hi334_0
                have HC334_0 := Aside0.mk hl334_0
                clear hi334_0 hl334_0
                replace p334 := eq_true p334
                replace q334 := eq_true q334
                have p335 : 0 ≤ (x10_6 : Int) := of_decide_eq_true (by with_reducible assumption)
                have q335 : x10_6 < ((rd_L11 t315 x9_4).length : Int) := of_decide_eq_true (by with_reducible assumption)
                obtain ⟨ad335, e335, hx335_0⟩ := Kd.at_bool (by repeat with_reducible first | exact HR334_0.out | refine C_alloc ?_ _ | refine C_drewN ?_ _ | refine C_drew ?_) x10_6 p335 q335
                (try rw [← Nbq46.out] at hx335_0)
                (try rw [← Nbq51.out] at hx335_0)
                (try rw [← Nbq54.out] at hx335_0)
                cases e335
                replace p335 := eq_true p335
                replace q335 := eq_true q335
                have p336 : 0 ≤ (x8_2 : Int) := of_decide_eq_true (by with_reducible assumption)
                have q336 : x8_2 < (t315.length : Int) := of_decide_eq_true (by with_reducible assumption)
                obtain ⟨ad336, A336_0, c336_0, e336, hx336_0, hl336_0, hi336_0⟩ := at_L11 (S_reads' HO_5.out).2.2 x8_2 p336 q336
                obtain rfl : ad332 = ad336 := (by injection e336)
                obtain ⟨ce336, hce336, hMe336, hcc336⟩ := S_get HO_5.out [] x8_2 p336 (by first | exact q336 | exact of_decide_eq_true (by with_reducible assumption) | (have e_ := (S_reads' HO_5.out).1; omega))
                obtain ⟨ve336_0, rfl, ge336_0⟩ := hMe336
                have hv336_0 := hcc336 0 _ rfl
                rw [Nat.add_zero, show ((Kd.slice 4 Kd.bool)).sz = 1 from rfl, Nat.mul_one] at hv336_0
                replace hv336_0 := Option.some.inj (hv336_0.symm.trans hx336_0)
                rw [hv336_0] at ge336_0
                have HL336_0 := Aside0.mk (show Kd.R Kd.bool 4 _ _ _ _ (rd_L11 t315 x8_2) from ge336_0)
                clear hv336_0 ge336_0
                clear hcc336 hce336
                have HR336_0 := Aside0.mk hi336_0
                have HC336_0 := Aside0.mk hl336_0
                clear hi336_0 hl336_0
                replace p336 := eq_true p336
                replace q336 := eq_true q336
                have ea_ := Option.some.inj (hx332_0.symm.trans hx336_0)
                injection ea_ with ea_ en_ ec_
                subst ea_
                subst ec_
                clear en_
                have p337 : 0 ≤ (x9_4 : Int) := of_decide_eq_true (by with_reducible assumption)
                have q337 : x9_4 < ((rd_L11 t315 x8_2).length : Int) := of_decide_eq_true (by with_reducible assumption)
                obtain ⟨ad337, e337, hx337_0⟩ := Kd.at_bool (by repeat with_reducible first | exact HR336_0.out | refine C_alloc ?_ _ | refine C_drewN ?_ _ | refine C_drew ?_) x9_4 p337 q337
                (try rw [← Nbq46.out] at hx337_0)
                (try rw [← Nbq51.out] at hx337_0)
                (try rw [← Nbq54.out] at hx337_0)
                cases e337
                replace p337 := eq_true p337
                replace q337 := eq_true q337
                have p338 : 0 ≤ (x8_2 : Int) := of_decide_eq_true (by with_reducible assumption)
                have q338 : x8_2 < (t315.length : Int) := of_decide_eq_true (by with_reducible assumption)
                obtain ⟨ad338, A338_0, c338_0, e338, hx338_0, hl338_0, hi338_0⟩ := at_L11 (S_reads' HO_5.out).2.2 x8_2 p338 q338
                obtain rfl : ad332 = ad338 := (by injection e338)
                obtain ⟨ce338, hce338, hMe338, hcc338⟩ := S_get HO_5.out [] x8_2 p338 (by first | exact q338 | exact of_decide_eq_true (by with_reducible assumption) | (have e_ := (S_reads' HO_5.out).1; omega))
                obtain ⟨ve338_0, rfl, ge338_0⟩ := hMe338
                have hv338_0 := hcc338 0 _ rfl
                rw [Nat.add_zero, show ((Kd.slice 4 Kd.bool)).sz = 1 from rfl, Nat.mul_one] at hv338_0
                replace hv338_0 := Option.some.inj (hv338_0.symm.trans hx338_0)
                rw [hv338_0] at ge338_0
                have HL338_0 := Aside0.mk (show Kd.R Kd.bool 4 _ _ _ _ (rd_L11 t315 x8_2) from ge338_0)
                clear hv338_0 ge338_0
                clear hcc338 hce338
                have HR338_0 := Aside0.mk hi338_0
                have HC338_0 := Aside0.mk hl338_0
                clear hi338_0 hl338_0
                replace p338 := eq_true p338
                replace q338 := eq_true q338
                have ea_ := Option.some.inj (hx332_0.symm.trans hx338_0)
                injection ea_ with ea_ en_ ec_
                subst ea_
                subst ec_
                clear en_
                have p339 : 0 ≤ (x9_4 : Int) := of_decide_eq_true (by with_reducible assumption)
                have q339 : x9_4 < ((rd_L11 t315 x8_2).length : Int) := of_decide_eq_true (by with_reducible assumption)
                obtain ⟨ad339, e339, hx339_0⟩ := Kd.at_bool (by repeat with_reducible first | exact HR338_0.out | refine C_alloc ?_ _ | refine C_drewN ?_ _ | refine C_drew ?_) x9_4 p339 q339
                (try rw [← Nbq46.out] at hx339_0)
                (try rw [← Nbq51.out] at hx339_0)
                (try rw [← Nbq54.out] at hx339_0)
                cases e339
                replace p339 := eq_true p339
                replace q339 := eq_true q339
                have p340 : 0 ≤ (x9_4 : Int) := of_decide_eq_true (by with_reducible assumption)
                have q340 : x9_4 < (t315.length : Int) := of_decide_eq_true (by with_reducible assumption)
                obtain ⟨ad340, A340_0, c340_0, e340, hx340_0, hl340_0, hi340_0⟩ := at_L11 (S_reads' HO_5.out).2.2 x9_4 p340 q340
                obtain rfl : ad332 = ad340 := (by injection e340)
                obtain ⟨ce340, hce340, hMe340, hcc340⟩ := S_get HO_5.out [] x9_4 p340 (by first | exact q340 | exact of_decide_eq_true (by with_reducible assumption) | (have e_ := (S_reads' HO_5.out).1; omega))
                obtain ⟨ve340_0, rfl, ge340_0⟩ := hMe340
                have hv340_0 := hcc340 0 _ rfl
                rw [Nat.add_zero, show ((Kd.slice 4 Kd.bool)).sz = 1 from rfl, Nat.mul_one] at hv340_0
                replace hv340_0 := Option.some.inj (hv340_0.symm.trans hx340_0)
                rw [hv340_0] at ge340_0
                have HL340_0 := Aside0.mk (show Kd.R Kd.bool 4 _ _ _ _ (rd_L11 t315 x9_4) from ge340_0)
                clear hv340_0 ge340_0
                clear hcc340 hce340
                have HR340_0 := Aside0.mk hi340_0
                have HC340_0 := Aside0.mk hl340_0
                clear hi340_0 hl340_0
                replace p340 := eq_true p340
                replace q340 := eq_true q340
                have ea_ := Option.some.inj (hx334_0.symm.trans hx340_0)
                injection ea_ with ea_ en_ ec_
                subst ea_
                subst ec_
                clear en_
                have p341 : 0 ≤ (x10_6 : Int) := of_decide_eq_true (by with_reducible assumption)
                have q341 : x10_6 < ((rd_L11 t315 x9_4).length : Int) := of_decide_eq_true (by with_reducible assumption)
                obtain ⟨ad341, e341, hx341_0⟩ := Kd.at_bool (by repeat with_reducible first | exact HR340_0.out | refine C_alloc ?_ _ | refine C_drewN ?_ _ | refine C_drew ?_) x10_6 p341 q341
                (try rw [← Nbq46.out] at hx341_0)
                (try rw [← Nbq51.out] at hx341_0)
                (try rw [← Nbq54.out] at hx341_0)
                cases e341
                replace p341 := eq_true p341
                replace q341 := eq_true q341
                have p342 : 0 ≤ (x8_2 : Int) := of_decide_eq_true (by with_reducible assumption)
                have q342 : x8_2 < (t315.length : Int) := of_decide_eq_true (by with_reducible assumption)
                obtain ⟨ad342, A342_0, c342_0, e342, hx342_0, hl342_0, hi342_0⟩ := at_L11 (S_reads' HO_5.out).2.2 x8_2 p342 q342
                obtain rfl : ad332 = ad342 := (by injection e342)
                obtain ⟨ce342, hce342, hMe342, hcc342⟩ := S_get HO_5.out [] x8_2 p342 (by first | exact q342 | exact of_decide_eq_true (by with_reducible assumption) | (have e_ := (S_reads' HO_5.out).1; omega))
                obtain ⟨ve342_0, rfl, ge342_0⟩ := hMe342
                have hv342_0 := hcc342 0 _ rfl
                rw [Nat.add_zero, show ((Kd.slice 4 Kd.bool)).sz = 1 from rfl, Nat.mul_one] at hv342_0
                replace hv342_0 := Option.some.inj (hv342_0.symm.trans hx342_0)
                rw [hv342_0] at ge342_0
                have HL342_0 := Aside0.mk (show Kd.R Kd.bool 4 _ _ _ _ (rd_L11 t315 x8_2) from ge342_0)
                clear hv342_0 ge342_0
                clear hcc342 hce342
                have HR342_0 := Aside0.mk hi342_0
                have HC342_0 := Aside0.mk hl342_0
                clear hi342_0 hl342_0
                replace p342 := eq_true p342
                replace q342 := eq_true q342
                have ea_ := Option.some.inj (hx332_0.symm.trans hx342_0)
                injection ea_ with ea_ en_ ec_
                subst ea_
                subst ec_
                clear en_
                have p343 : 0 ≤ (x10_6 : Int) := of_decide_eq_true (by with_reducible assumption)
                have q343 : x10_6 < ((rd_L11 t315 x8_2).length : Int) := of_decide_eq_true (by with_reducible assumption)
                obtain ⟨ad343, e343, hx343_0⟩ := Kd.at_bool (by repeat with_reducible first | exact HR342_0.out | refine C_alloc ?_ _ | refine C_drewN ?_ _ | refine C_drew ?_) x10_6 p343 q343
                (try rw [← Nbq46.out] at hx343_0)
                (try rw [← Nbq51.out] at hx343_0)
                (try rw [← Nbq54.out] at hx343_0)
                cases e343
                replace p343 := eq_true p343
                replace q343 := eq_true q343
                go_wp2
                repeat (go_quiet (fail); try go_wp2)
                go_roundg k6
                case measure => have := HK1.out; have := HK2.out; have := HJ21.out; have := HK4.out; have := HJ30.out; have := HK6.out; omega
                case rel => exact ⟨(wrap64 (x10_6 + 1)), (by first | rfl | (simp; done) | (simp [*]; done)), H', ⟨by have := HK1.out; have := HK2.out; have := HJ21.out; have := HK4.out; have := HJ30.out; have := HK6.out; omega⟩, ⟨by (with_reducible repeat (first | apply S_alloc | apply S_drewN | apply S_drew)); exact HO_5.out⟩, ⟨by (with_reducible repeat (first | apply R_alloc | apply R_drewN | apply R_drew)); exact HO_6.out⟩, ⟨by (with_reducible repeat (first | refine blk_drewN ?_ _ | refine blk_drew ?_ | refine blk_alloc ?_ _)); exact BK312.out⟩, ⟨by repeat (first | (with_reducible first | exact HB.out | apply below_alloc | apply pw_below_drewN | apply below_drew1 | refine below_set ?_ GE312.out) | exact HB.out)⟩⟩
              replace c55 := Bool.eq_false_iff.mpr c55
              subst c55
              have H1 : (if x8_2 < ((rd_L11 t315 x9_4).length : Int) then (if (rdOf false (rd_L11 t315 x9_4) x8_2 = true) then (fettlelaw06_DomOrder.l3 k6 t313 t315 t318 x8_2 x9_4 (wrap64 (x10_6 + 1))) else (some false)) else (none)) = some r := by rw [if_neg (show ¬ (false = true) by decide)] at H; exact H
              clear H
              have H := H1
              clear H1
              by_cases c56 : x8_2 < ((rd_L11 t315 x9_4).length : Int)
              rotate_left
              · rw [if_neg c56] at H
                exact absurd H (by simp)
              rw [if_pos c56] at H
              have c56b0 : decide (x8_2 < ((rd_L11 t315 x9_4).length : Int)) = true := decide_eq_true c56
              clear c56
              obtain ⟨bq57, hbq57⟩ : ∃ b_ : Bool, b_ = (rdOf false (rd_L11 t315 x9_4) x8_2) := ⟨_, rfl⟩
              replace H : (if (bq57 = true) then (fettlelaw06_DomOrder.l3 k6 t313 t315 t318 x8_2 x9_4 (wrap64 (x10_6 + 1))) else (some false)) = some r := by rw [← hbq57] at H; exact H
              have Nbq57 := Aside0.mk hbq57
              clear hbq57
              by_cases c58 : (bq57 = true)
              · subst c58
                have H1 : (fettlelaw06_DomOrder.l3 k6 t313 t315 t318 x8_2 x9_4 (wrap64 (x10_6 + 1))) = some r := by rw [if_pos rfl] at H; exact H
                clear H
                have H := H1
                clear H1
                have H' := Aside0.mk H
                clear H
                have p332 : 0 ≤ (x8_2 : Int) := of_decide_eq_true (by with_reducible assumption)
                have q332 : x8_2 < (t315.length : Int) := of_decide_eq_true (by with_reducible assumption)
                obtain ⟨ad332, A332_0, c332_0, e332, hx332_0, hl332_0, hi332_0⟩ := at_L11 (S_reads' HO_5.out).2.2 x8_2 p332 q332
                cases e332
                obtain ⟨ce332, hce332, hMe332, hcc332⟩ := S_get HO_5.out [] x8_2 p332 (by first | exact q332 | exact of_decide_eq_true (by with_reducible assumption) | (have e_ := (S_reads' HO_5.out).1; omega))
                obtain ⟨ve332_0, rfl, ge332_0⟩ := hMe332
                have hv332_0 := hcc332 0 _ rfl
                rw [Nat.add_zero, show ((Kd.slice 4 Kd.bool)).sz = 1 from rfl, Nat.mul_one] at hv332_0
                replace hv332_0 := Option.some.inj (hv332_0.symm.trans hx332_0)
                rw [hv332_0] at ge332_0
                have HL332_0 := Aside0.mk (show Kd.R Kd.bool 4 _ _ _ _ (rd_L11 t315 x8_2) from ge332_0)
                clear hv332_0 ge332_0
                clear hcc332 hce332
                have HR332_0 := Aside0.mk hi332_0
                have HC332_0 := Aside0.mk hl332_0
                clear hi332_0 hl332_0
                replace p332 := eq_true p332
                replace q332 := eq_true q332
                have p333 : 0 ≤ (x10_6 : Int) := of_decide_eq_true (by with_reducible assumption)
                have q333 : x10_6 < ((rd_L11 t315 x8_2).length : Int) := of_decide_eq_true (by with_reducible assumption)
                obtain ⟨ad333, e333, hx333_0⟩ := Kd.at_bool (by repeat with_reducible first | exact HR332_0.out | refine C_alloc ?_ _ | refine C_drewN ?_ _ | refine C_drew ?_) x10_6 p333 q333
                (try rw [← Nbq46.out] at hx333_0)
                (try rw [← Nbq51.out] at hx333_0)
                (try rw [← Nbq54.out] at hx333_0)
                (try rw [← Nbq57.out] at hx333_0)
                cases e333
                replace p333 := eq_true p333
                replace q333 := eq_true q333
                have p334 : 0 ≤ (x9_4 : Int) := of_decide_eq_true (by with_reducible assumption)
                have q334 : x9_4 < (t315.length : Int) := of_decide_eq_true (by with_reducible assumption)
                obtain ⟨ad334, A334_0, c334_0, e334, hx334_0, hl334_0, hi334_0⟩ := at_L11 (S_reads' HO_5.out).2.2 x9_4 p334 q334
                obtain rfl : ad332 = ad334 := (by injection e334)
                obtain ⟨ce334, hce334, hMe334, hcc334⟩ := S_get HO_5.out [] x9_4 p334 (by first | exact q334 | exact of_decide_eq_true (by with_reducible assumption) | (have e_ := (S_reads' HO_5.out).1; omega))
                obtain ⟨ve334_0, rfl, ge334_0⟩ := hMe334
                have hv334_0 := hcc334 0 _ rfl
                rw [Nat.add_zero, show ((Kd.slice 4 Kd.bool)).sz = 1 from rfl, Nat.mul_one] at hv334_0
                replace hv334_0 := Option.some.inj (hv334_0.symm.trans hx334_0)
                rw [hv334_0] at ge334_0
                have HL334_0 := Aside0.mk (show Kd.R Kd.bool 4 _ _ _ _ (rd_L11 t315 x9_4) from ge334_0)
                clear hv334_0 ge334_0
                clear hcc334 hce334
                have HR334_0 := Aside0.mk hi334_0
                have HC334_0 := Aside0.mk hl334_0
                clear hi334_0 hl334_0
                replace p334 := eq_true p334
                replace q334 := eq_true q334
                have p335 : 0 ≤ (x10_6 : Int) := of_decide_eq_true (by with_reducible assumption)
                have q335 : x10_6 < ((rd_L11 t315 x9_4).length : Int) := of_decide_eq_true (by with_reducible assumption)
                obtain ⟨ad335, e335, hx335_0⟩ := Kd.at_bool (by repeat with_reducible first | exact HR334_0.out | refine C_alloc ?_ _ | refine C_drewN ?_ _ | refine C_drew ?_) x10_6 p335 q335
                (try rw [← Nbq46.out] at hx335_0)
                (try rw [← Nbq51.out] at hx335_0)
                (try rw [← Nbq54.out] at hx335_0)
                (try rw [← Nbq57.out] at hx335_0)
                cases e335
                replace p335 := eq_true p335
                replace q335 := eq_true q335
                have p336 : 0 ≤ (x8_2 : Int) := of_decide_eq_true (by with_reducible assumption)
                have q336 : x8_2 < (t315.length : Int) := of_decide_eq_true (by with_reducible assumption)
                obtain ⟨ad336, A336_0, c336_0, e336, hx336_0, hl336_0, hi336_0⟩ := at_L11 (S_reads' HO_5.out).2.2 x8_2 p336 q336
                obtain rfl : ad332 = ad336 := (by injection e336)
                obtain ⟨ce336, hce336, hMe336, hcc336⟩ := S_get HO_5.out [] x8_2 p336 (by first | exact q336 | exact of_decide_eq_true (by with_reducible assumption) | (have e_ := (S_reads' HO_5.out).1; omega))
                obtain ⟨ve336_0, rfl, ge336_0⟩ := hMe336
                have hv336_0 := hcc336 0 _ rfl
                rw [Nat.add_zero, show ((Kd.slice 4 Kd.bool)).sz = 1 from rfl, Nat.mul_one] at hv336_0
                replace hv336_0 := Option.some.inj (hv336_0.symm.trans hx336_0)
                rw [hv336_0] at ge336_0
                have HL336_0 := Aside0.mk (show Kd.R Kd.bool 4 _ _ _ _ (rd_L11 t315 x8_2) from ge336_0)
                clear hv336_0 ge336_0
                clear hcc336 hce336
                have HR336_0 := Aside0.mk hi336_0
                have HC336_0 := Aside0.mk hl336_0
                clear hi336_0 hl336_0
                replace p336 := eq_true p336
                replace q336 := eq_true q336
                have ea_ := Option.some.inj (hx332_0.symm.trans hx336_0)
                injection ea_ with ea_ en_ ec_
                subst ea_
                subst ec_
                clear en_
                have p337 : 0 ≤ (x9_4 : Int) := of_decide_eq_true (by with_reducible assumption)
                have q337 : x9_4 < ((rd_L11 t315 x8_2).length : Int) := of_decide_eq_true (by with_reducible assumption)
                obtain ⟨ad337, e337, hx337_0⟩ := Kd.at_bool (by repeat with_reducible first | exact HR336_0.out | refine C_alloc ?_ _ | refine C_drewN ?_ _ | refine C_drew ?_) x9_4 p337 q337
                (try rw [← Nbq46.out] at hx337_0)
                (try rw [← Nbq51.out] at hx337_0)
                (try rw [← Nbq54.out] at hx337_0)
                (try rw [← Nbq57.out] at hx337_0)
                cases e337
                replace p337 := eq_true p337
                replace q337 := eq_true q337
                have p344 : 0 ≤ (x9_4 : Int) := of_decide_eq_true (by with_reducible assumption)
                have q344 : x9_4 < (t315.length : Int) := of_decide_eq_true (by with_reducible assumption)
                obtain ⟨ad344, A344_0, c344_0, e344, hx344_0, hl344_0, hi344_0⟩ := at_L11 (S_reads' HO_5.out).2.2 x9_4 p344 q344
                obtain rfl : ad332 = ad344 := (by injection e344)
                obtain ⟨ce344, hce344, hMe344, hcc344⟩ := S_get HO_5.out [] x9_4 p344 (by first | exact q344 | exact of_decide_eq_true (by with_reducible assumption) | (have e_ := (S_reads' HO_5.out).1; omega))
                obtain ⟨ve344_0, rfl, ge344_0⟩ := hMe344
                have hv344_0 := hcc344 0 _ rfl
                rw [Nat.add_zero, show ((Kd.slice 4 Kd.bool)).sz = 1 from rfl, Nat.mul_one] at hv344_0
                replace hv344_0 := Option.some.inj (hv344_0.symm.trans hx344_0)
                rw [hv344_0] at ge344_0
                have HL344_0 := Aside0.mk (show Kd.R Kd.bool 4 _ _ _ _ (rd_L11 t315 x9_4) from ge344_0)
                clear hv344_0 ge344_0
                clear hcc344 hce344
                have HR344_0 := Aside0.mk hi344_0
                have HC344_0 := Aside0.mk hl344_0
                clear hi344_0 hl344_0
                replace p344 := eq_true p344
                replace q344 := eq_true q344
                have ea_ := Option.some.inj (hx334_0.symm.trans hx344_0)
                injection ea_ with ea_ en_ ec_
                subst ea_
                subst ec_
                clear en_
                have p345 : 0 ≤ (x8_2 : Int) := of_decide_eq_true (by with_reducible assumption)
                have q345 : x8_2 < ((rd_L11 t315 x9_4).length : Int) := of_decide_eq_true (by with_reducible assumption)
                obtain ⟨ad345, e345, hx345_0⟩ := Kd.at_bool (by repeat with_reducible first | exact HR344_0.out | refine C_alloc ?_ _ | refine C_drewN ?_ _ | refine C_drew ?_) x8_2 p345 q345
                (try rw [← Nbq46.out] at hx345_0)
                (try rw [← Nbq51.out] at hx345_0)
                (try rw [← Nbq54.out] at hx345_0)
                (try rw [← Nbq57.out] at hx345_0)
                cases e345
                replace p345 := eq_true p345
                replace q345 := eq_true q345
                have p346 : 0 ≤ (x8_2 : Int) := of_decide_eq_true (by with_reducible assumption)
                have q346 : x8_2 < (t315.length : Int) := of_decide_eq_true (by with_reducible assumption)
                obtain ⟨ad346, A346_0, c346_0, e346, hx346_0, hl346_0, hi346_0⟩ := at_L11 (S_reads' HO_5.out).2.2 x8_2 p346 q346
                obtain rfl : ad332 = ad346 := (by injection e346)
                obtain ⟨ce346, hce346, hMe346, hcc346⟩ := S_get HO_5.out [] x8_2 p346 (by first | exact q346 | exact of_decide_eq_true (by with_reducible assumption) | (have e_ := (S_reads' HO_5.out).1; omega))
                obtain ⟨ve346_0, rfl, ge346_0⟩ := hMe346
                have hv346_0 := hcc346 0 _ rfl
                rw [Nat.add_zero, show ((Kd.slice 4 Kd.bool)).sz = 1 from rfl, Nat.mul_one] at hv346_0
                replace hv346_0 := Option.some.inj (hv346_0.symm.trans hx346_0)
                rw [hv346_0] at ge346_0
                have HL346_0 := Aside0.mk (show Kd.R Kd.bool 4 _ _ _ _ (rd_L11 t315 x8_2) from ge346_0)
                clear hv346_0 ge346_0
                clear hcc346 hce346
                have HR346_0 := Aside0.mk hi346_0
                have HC346_0 := Aside0.mk hl346_0
                clear hi346_0 hl346_0
                replace p346 := eq_true p346
                replace q346 := eq_true q346
                have ea_ := Option.some.inj (hx332_0.symm.trans hx346_0)
                injection ea_ with ea_ en_ ec_
                subst ea_
                subst ec_
                clear en_
                have p347 : 0 ≤ (x9_4 : Int) := of_decide_eq_true (by with_reducible assumption)
                have q347 : x9_4 < ((rd_L11 t315 x8_2).length : Int) := of_decide_eq_true (by with_reducible assumption)
                obtain ⟨ad347, e347, hx347_0⟩ := Kd.at_bool (by repeat with_reducible first | exact HR346_0.out | refine C_alloc ?_ _ | refine C_drewN ?_ _ | refine C_drew ?_) x9_4 p347 q347
                (try rw [← Nbq46.out] at hx347_0)
                (try rw [← Nbq51.out] at hx347_0)
                (try rw [← Nbq54.out] at hx347_0)
                (try rw [← Nbq57.out] at hx347_0)
                cases e347
                replace p347 := eq_true p347
                replace q347 := eq_true q347
                go_wp2
                repeat (go_quiet (fail); try go_wp2)
                go_roundg k6
                case measure => have := HK1.out; have := HK2.out; have := HJ21.out; have := HK4.out; have := HJ30.out; have := HK6.out; omega
                case rel => exact ⟨(wrap64 (x10_6 + 1)), (by first | rfl | (simp; done) | (simp [*]; done)), H', ⟨by have := HK1.out; have := HK2.out; have := HJ21.out; have := HK4.out; have := HJ30.out; have := HK6.out; omega⟩, ⟨by (with_reducible repeat (first | apply S_alloc | apply S_drewN | apply S_drew)); exact HO_5.out⟩, ⟨by (with_reducible repeat (first | apply R_alloc | apply R_drewN | apply R_drew)); exact HO_6.out⟩, ⟨by (with_reducible repeat (first | refine blk_drewN ?_ _ | refine blk_drew ?_ | refine blk_alloc ?_ _)); exact BK312.out⟩, ⟨by repeat (first | (with_reducible first | exact HB.out | apply below_alloc | apply pw_below_drewN | apply below_drew1 | refine below_set ?_ GE312.out) | exact HB.out)⟩⟩
              replace c58 := Bool.eq_false_iff.mpr c58
              subst c58
              have H1 : (some false) = some r := by rw [if_neg (show ¬ (false = true) by decide)] at H; exact H
              clear H
              have H := H1
              clear H1
              obtain rfl := Option.some.inj H
              have p332 : 0 ≤ (x8_2 : Int) := of_decide_eq_true (by with_reducible assumption)
              have q332 : x8_2 < (t315.length : Int) := of_decide_eq_true (by with_reducible assumption)
              obtain ⟨ad332, A332_0, c332_0, e332, hx332_0, hl332_0, hi332_0⟩ := at_L11 (S_reads' HO_5.out).2.2 x8_2 p332 q332
              cases e332
              obtain ⟨ce332, hce332, hMe332, hcc332⟩ := S_get HO_5.out [] x8_2 p332 (by first | exact q332 | exact of_decide_eq_true (by with_reducible assumption) | (have e_ := (S_reads' HO_5.out).1; omega))
              obtain ⟨ve332_0, rfl, ge332_0⟩ := hMe332
              have hv332_0 := hcc332 0 _ rfl
              rw [Nat.add_zero, show ((Kd.slice 4 Kd.bool)).sz = 1 from rfl, Nat.mul_one] at hv332_0
              replace hv332_0 := Option.some.inj (hv332_0.symm.trans hx332_0)
              rw [hv332_0] at ge332_0
              have HL332_0 := Aside0.mk (show Kd.R Kd.bool 4 _ _ _ _ (rd_L11 t315 x8_2) from ge332_0)
              clear hv332_0 ge332_0
              clear hcc332 hce332
              have HR332_0 := Aside0.mk hi332_0
              have HC332_0 := Aside0.mk hl332_0
              clear hi332_0 hl332_0
              replace p332 := eq_true p332
              replace q332 := eq_true q332
              have p333 : 0 ≤ (x10_6 : Int) := of_decide_eq_true (by with_reducible assumption)
              have q333 : x10_6 < ((rd_L11 t315 x8_2).length : Int) := of_decide_eq_true (by with_reducible assumption)
              obtain ⟨ad333, e333, hx333_0⟩ := Kd.at_bool (by repeat with_reducible first | exact HR332_0.out | refine C_alloc ?_ _ | refine C_drewN ?_ _ | refine C_drew ?_) x10_6 p333 q333
              (try rw [← Nbq46.out] at hx333_0)
              (try rw [← Nbq51.out] at hx333_0)
              (try rw [← Nbq54.out] at hx333_0)
              (try rw [← Nbq57.out] at hx333_0)
              cases e333
              replace p333 := eq_true p333
              replace q333 := eq_true q333
              have p334 : 0 ≤ (x9_4 : Int) := of_decide_eq_true (by with_reducible assumption)
              have q334 : x9_4 < (t315.length : Int) := of_decide_eq_true (by with_reducible assumption)
              obtain ⟨ad334, A334_0, c334_0, e334, hx334_0, hl334_0, hi334_0⟩ := at_L11 (S_reads' HO_5.out).2.2 x9_4 p334 q334
              obtain rfl : ad332 = ad334 := (by injection e334)
              obtain ⟨ce334, hce334, hMe334, hcc334⟩ := S_get HO_5.out [] x9_4 p334 (by first | exact q334 | exact of_decide_eq_true (by with_reducible assumption) | (have e_ := (S_reads' HO_5.out).1; omega))
              obtain ⟨ve334_0, rfl, ge334_0⟩ := hMe334
              have hv334_0 := hcc334 0 _ rfl
              rw [Nat.add_zero, show ((Kd.slice 4 Kd.bool)).sz = 1 from rfl, Nat.mul_one] at hv334_0
              replace hv334_0 := Option.some.inj (hv334_0.symm.trans hx334_0)
              rw [hv334_0] at ge334_0
              have HL334_0 := Aside0.mk (show Kd.R Kd.bool 4 _ _ _ _ (rd_L11 t315 x9_4) from ge334_0)
              clear hv334_0 ge334_0
              clear hcc334 hce334
              have HR334_0 := Aside0.mk hi334_0
              have HC334_0 := Aside0.mk hl334_0
              clear hi334_0 hl334_0
              replace p334 := eq_true p334
              replace q334 := eq_true q334
              have p335 : 0 ≤ (x10_6 : Int) := of_decide_eq_true (by with_reducible assumption)
              have q335 : x10_6 < ((rd_L11 t315 x9_4).length : Int) := of_decide_eq_true (by with_reducible assumption)
              obtain ⟨ad335, e335, hx335_0⟩ := Kd.at_bool (by repeat with_reducible first | exact HR334_0.out | refine C_alloc ?_ _ | refine C_drewN ?_ _ | refine C_drew ?_) x10_6 p335 q335
              (try rw [← Nbq46.out] at hx335_0)
              (try rw [← Nbq51.out] at hx335_0)
              (try rw [← Nbq54.out] at hx335_0)
              (try rw [← Nbq57.out] at hx335_0)
              cases e335
              replace p335 := eq_true p335
              replace q335 := eq_true q335
              have p336 : 0 ≤ (x8_2 : Int) := of_decide_eq_true (by with_reducible assumption)
              have q336 : x8_2 < (t315.length : Int) := of_decide_eq_true (by with_reducible assumption)
              obtain ⟨ad336, A336_0, c336_0, e336, hx336_0, hl336_0, hi336_0⟩ := at_L11 (S_reads' HO_5.out).2.2 x8_2 p336 q336
              obtain rfl : ad332 = ad336 := (by injection e336)
              obtain ⟨ce336, hce336, hMe336, hcc336⟩ := S_get HO_5.out [] x8_2 p336 (by first | exact q336 | exact of_decide_eq_true (by with_reducible assumption) | (have e_ := (S_reads' HO_5.out).1; omega))
              obtain ⟨ve336_0, rfl, ge336_0⟩ := hMe336
              have hv336_0 := hcc336 0 _ rfl
              rw [Nat.add_zero, show ((Kd.slice 4 Kd.bool)).sz = 1 from rfl, Nat.mul_one] at hv336_0
              replace hv336_0 := Option.some.inj (hv336_0.symm.trans hx336_0)
              rw [hv336_0] at ge336_0
              have HL336_0 := Aside0.mk (show Kd.R Kd.bool 4 _ _ _ _ (rd_L11 t315 x8_2) from ge336_0)
              clear hv336_0 ge336_0
              clear hcc336 hce336
              have HR336_0 := Aside0.mk hi336_0
              have HC336_0 := Aside0.mk hl336_0
              clear hi336_0 hl336_0
              replace p336 := eq_true p336
              replace q336 := eq_true q336
              have ea_ := Option.some.inj (hx332_0.symm.trans hx336_0)
              injection ea_ with ea_ en_ ec_
              subst ea_
              subst ec_
              clear en_
              have p337 : 0 ≤ (x9_4 : Int) := of_decide_eq_true (by with_reducible assumption)
              have q337 : x9_4 < ((rd_L11 t315 x8_2).length : Int) := of_decide_eq_true (by with_reducible assumption)
              obtain ⟨ad337, e337, hx337_0⟩ := Kd.at_bool (by repeat with_reducible first | exact HR336_0.out | refine C_alloc ?_ _ | refine C_drewN ?_ _ | refine C_drew ?_) x9_4 p337 q337
              (try rw [← Nbq46.out] at hx337_0)
              (try rw [← Nbq51.out] at hx337_0)
              (try rw [← Nbq54.out] at hx337_0)
              (try rw [← Nbq57.out] at hx337_0)
              cases e337
              replace p337 := eq_true p337
              replace q337 := eq_true q337
              have p344 : 0 ≤ (x9_4 : Int) := of_decide_eq_true (by with_reducible assumption)
              have q344 : x9_4 < (t315.length : Int) := of_decide_eq_true (by with_reducible assumption)
              obtain ⟨ad344, A344_0, c344_0, e344, hx344_0, hl344_0, hi344_0⟩ := at_L11 (S_reads' HO_5.out).2.2 x9_4 p344 q344
              obtain rfl : ad332 = ad344 := (by injection e344)
              obtain ⟨ce344, hce344, hMe344, hcc344⟩ := S_get HO_5.out [] x9_4 p344 (by first | exact q344 | exact of_decide_eq_true (by with_reducible assumption) | (have e_ := (S_reads' HO_5.out).1; omega))
              obtain ⟨ve344_0, rfl, ge344_0⟩ := hMe344
              have hv344_0 := hcc344 0 _ rfl
              rw [Nat.add_zero, show ((Kd.slice 4 Kd.bool)).sz = 1 from rfl, Nat.mul_one] at hv344_0
              replace hv344_0 := Option.some.inj (hv344_0.symm.trans hx344_0)
              rw [hv344_0] at ge344_0
              have HL344_0 := Aside0.mk (show Kd.R Kd.bool 4 _ _ _ _ (rd_L11 t315 x9_4) from ge344_0)
              clear hv344_0 ge344_0
              clear hcc344 hce344
              have HR344_0 := Aside0.mk hi344_0
              have HC344_0 := Aside0.mk hl344_0
              clear hi344_0 hl344_0
              replace p344 := eq_true p344
              replace q344 := eq_true q344
              have ea_ := Option.some.inj (hx334_0.symm.trans hx344_0)
              injection ea_ with ea_ en_ ec_
              subst ea_
              subst ec_
              clear en_
              have p345 : 0 ≤ (x8_2 : Int) := of_decide_eq_true (by with_reducible assumption)
              have q345 : x8_2 < ((rd_L11 t315 x9_4).length : Int) := of_decide_eq_true (by with_reducible assumption)
              obtain ⟨ad345, e345, hx345_0⟩ := Kd.at_bool (by repeat with_reducible first | exact HR344_0.out | refine C_alloc ?_ _ | refine C_drewN ?_ _ | refine C_drew ?_) x8_2 p345 q345
              (try rw [← Nbq46.out] at hx345_0)
              (try rw [← Nbq51.out] at hx345_0)
              (try rw [← Nbq54.out] at hx345_0)
              (try rw [← Nbq57.out] at hx345_0)
              cases e345
              replace p345 := eq_true p345
              replace q345 := eq_true q345
              go_wp2
              repeat (go_quiet (fail); try go_wp2)
              go_ret
              exact ⟨by first | rfl | (simp [errW_none, errW_some] <;> rfl) | (simp [*, errW_none, errW_some] <;> rfl), by repeat (first | (with_reducible first | exact HB.out | apply below_alloc | apply pw_below_drewN | apply below_drew1 | refine below_set ?_ GE312.out) | exact HB.out)⟩
            replace c52 := Bool.eq_false_iff.mpr c52
            subst c52
            have H1 : (if x9_4 < ((rd_L11 t315 x8_2).length : Int) then (if rdOf false (rd_L11 t315 x8_2) x9_4 = true then (fettlelaw06_DomOrder.l3 k6 t313 t315 t318 x8_2 x9_4 (wrap64 (x10_6 + 1))) else (fettlelaw06_DomOrder.l3 k6 t313 t315 t318 x8_2 x9_4 (wrap64 (x10_6 + 1)))) else (none)) = some r := by rw [if_neg (show ¬ (false = true) by decide)] at H; exact H
            clear H
            have H := H1
            clear H1
            by_cases c59 : x9_4 < ((rd_L11 t315 x8_2).length : Int)
            rotate_left
            · rw [if_neg c59] at H
              exact absurd H (by simp)
            rw [if_pos c59] at H
            have c59b0 : decide (x9_4 < ((rd_L11 t315 x8_2).length : Int)) = true := decide_eq_true c59
            clear c59
            obtain ⟨bq60, hbq60⟩ : ∃ b_ : Bool, b_ = (rdOf false (rd_L11 t315 x8_2) x9_4) := ⟨_, rfl⟩
            replace H : (if bq60 = true then (fettlelaw06_DomOrder.l3 k6 t313 t315 t318 x8_2 x9_4 (wrap64 (x10_6 + 1))) else (fettlelaw06_DomOrder.l3 k6 t313 t315 t318 x8_2 x9_4 (wrap64 (x10_6 + 1)))) = some r := by rw [← hbq60] at H; exact H
            have Nbq60 := Aside0.mk hbq60
            clear hbq60
            by_cases c61 : bq60 = true
            · subst c61
              have H1 : (fettlelaw06_DomOrder.l3 k6 t313 t315 t318 x8_2 x9_4 (wrap64 (x10_6 + 1))) = some r := by rw [if_pos rfl] at H; exact H
              clear H
              have H := H1
              clear H1
              have H' := Aside0.mk H
              clear H
              have p332 : 0 ≤ (x8_2 : Int) := of_decide_eq_true (by with_reducible assumption)
              have q332 : x8_2 < (t315.length : Int) := of_decide_eq_true (by with_reducible assumption)
              obtain ⟨ad332, A332_0, c332_0, e332, hx332_0, hl332_0, hi332_0⟩ := at_L11 (S_reads' HO_5.out).2.2 x8_2 p332 q332
              cases e332
              obtain ⟨ce332, hce332, hMe332, hcc332⟩ := S_get HO_5.out [] x8_2 p332 (by first | exact q332 | exact of_decide_eq_true (by with_reducible assumption) | (have e_ := (S_reads' HO_5.out).1; omega))
              obtain ⟨ve332_0, rfl, ge332_0⟩ := hMe332
              have hv332_0 := hcc332 0 _ rfl
              rw [Nat.add_zero, show ((Kd.slice 4 Kd.bool)).sz = 1 from rfl, Nat.mul_one] at hv332_0
              replace hv332_0 := Option.some.inj (hv332_0.symm.trans hx332_0)
              rw [hv332_0] at ge332_0
              have HL332_0 := Aside0.mk (show Kd.R Kd.bool 4 _ _ _ _ (rd_L11 t315 x8_2) from ge332_0)
              clear hv332_0 ge332_0
              clear hcc332 hce332
              have HR332_0 := Aside0.mk hi332_0
              have HC332_0 := Aside0.mk hl332_0
              clear hi332_0 hl332_0
              replace p332 := eq_true p332
              replace q332 := eq_true q332
              have p333 : 0 ≤ (x10_6 : Int) := of_decide_eq_true (by with_reducible assumption)
              have q333 : x10_6 < ((rd_L11 t315 x8_2).length : Int) := of_decide_eq_true (by with_reducible assumption)
              obtain ⟨ad333, e333, hx333_0⟩ := Kd.at_bool (by repeat with_reducible first | exact HR332_0.out | refine C_alloc ?_ _ | refine C_drewN ?_ _ | refine C_drew ?_) x10_6 p333 q333
              (try rw [← Nbq46.out] at hx333_0)
              (try rw [← Nbq51.out] at hx333_0)
              (try rw [← Nbq60.out] at hx333_0)
              cases e333
              replace p333 := eq_true p333
              replace q333 := eq_true q333
              have p334 : 0 ≤ (x9_4 : Int) := of_decide_eq_true (by with_reducible assumption)
              have q334 : x9_4 < (t315.length : Int) := of_decide_eq_true (by with_reducible assumption)
              obtain ⟨ad334, A334_0, c334_0, e334, hx334_0, hl334_0, hi334_0⟩ := at_L11 (S_reads' HO_5.out).2.2 x9_4 p334 q334
              obtain rfl : ad332 = ad334 := (by injection e334)
              obtain ⟨ce334, hce334, hMe334, hcc334⟩ := S_get HO_5.out [] x9_4 p334 (by first | exact q334 | exact of_decide_eq_true (by with_reducible assumption) | (have e_ := (S_reads' HO_5.out).1; omega))
              obtain ⟨ve334_0, rfl, ge334_0⟩ := hMe334
              have hv334_0 := hcc334 0 _ rfl
              rw [Nat.add_zero, show ((Kd.slice 4 Kd.bool)).sz = 1 from rfl, Nat.mul_one] at hv334_0
              replace hv334_0 := Option.some.inj (hv334_0.symm.trans hx334_0)
              rw [hv334_0] at ge334_0
              have HL334_0 := Aside0.mk (show Kd.R Kd.bool 4 _ _ _ _ (rd_L11 t315 x9_4) from ge334_0)
              clear hv334_0 ge334_0
              clear hcc334 hce334
              have HR334_0 := Aside0.mk hi334_0
              have HC334_0 := Aside0.mk hl334_0
              clear hi334_0 hl334_0
              replace p334 := eq_true p334
              replace q334 := eq_true q334
              have p335 : 0 ≤ (x10_6 : Int) := of_decide_eq_true (by with_reducible assumption)
              have q335 : x10_6 < ((rd_L11 t315 x9_4).length : Int) := of_decide_eq_true (by with_reducible assumption)
              obtain ⟨ad335, e335, hx335_0⟩ := Kd.at_bool (by repeat with_reducible first | exact HR334_0.out | refine C_alloc ?_ _ | refine C_drewN ?_ _ | refine C_drew ?_) x10_6 p335 q335
              (try rw [← Nbq46.out] at hx335_0)
              (try rw [← Nbq51.out] at hx335_0)
              (try rw [← Nbq60.out] at hx335_0)
              cases e335
              replace p335 := eq_true p335
              replace q335 := eq_true q335
              have p348 : 0 ≤ (x8_2 : Int) := of_decide_eq_true (by with_reducible assumption)
              have q348 : x8_2 < (t315.length : Int) := of_decide_eq_true (by with_reducible assumption)
              obtain ⟨ad348, A348_0, c348_0, e348, hx348_0, hl348_0, hi348_0⟩ := at_L11 (S_reads' HO_5.out).2.2 x8_2 p348 q348
              obtain rfl : ad332 = ad348 := (by injection e348)
              obtain ⟨ce348, hce348, hMe348, hcc348⟩ := S_get HO_5.out [] x8_2 p348 (by first | exact q348 | exact of_decide_eq_true (by with_reducible assumption) | (have e_ := (S_reads' HO_5.out).1; omega))
              obtain ⟨ve348_0, rfl, ge348_0⟩ := hMe348
              have hv348_0 := hcc348 0 _ rfl
              rw [Nat.add_zero, show ((Kd.slice 4 Kd.bool)).sz = 1 from rfl, Nat.mul_one] at hv348_0
              replace hv348_0 := Option.some.inj (hv348_0.symm.trans hx348_0)
              rw [hv348_0] at ge348_0
              have HL348_0 := Aside0.mk (show Kd.R Kd.bool 4 _ _ _ _ (rd_L11 t315 x8_2) from ge348_0)
              clear hv348_0 ge348_0
              clear hcc348 hce348
              have HR348_0 := Aside0.mk hi348_0
              have HC348_0 := Aside0.mk hl348_0
              clear hi348_0 hl348_0
              replace p348 := eq_true p348
              replace q348 := eq_true q348
              have ea_ := Option.some.inj (hx332_0.symm.trans hx348_0)
              injection ea_ with ea_ en_ ec_
              subst ea_
              subst ec_
              clear en_
              have p349 : 0 ≤ (x9_4 : Int) := of_decide_eq_true (by with_reducible assumption)
              have q349 : x9_4 < ((rd_L11 t315 x8_2).length : Int) := of_decide_eq_true (by with_reducible assumption)
              obtain ⟨ad349, e349, hx349_0⟩ := Kd.at_bool (by repeat with_reducible first | exact HR348_0.out | refine C_alloc ?_ _ | refine C_drewN ?_ _ | refine C_drew ?_) x9_4 p349 q349
              (try rw [← Nbq46.out] at hx349_0)
              (try rw [← Nbq51.out] at hx349_0)
              (try rw [← Nbq60.out] at hx349_0)
              cases e349
              replace p349 := eq_true p349
              replace q349 := eq_true q349
              have p350 : 0 ≤ (x9_4 : Int) := of_decide_eq_true (by with_reducible assumption)
              have q350 : x9_4 < (t315.length : Int) := of_decide_eq_true (by with_reducible assumption)
              obtain ⟨ad350, A350_0, c350_0, e350, hx350_0, hl350_0, hi350_0⟩ := at_L11 (S_reads' HO_5.out).2.2 x9_4 p350 q350
              obtain rfl : ad332 = ad350 := (by injection e350)
              obtain ⟨ce350, hce350, hMe350, hcc350⟩ := S_get HO_5.out [] x9_4 p350 (by first | exact q350 | exact of_decide_eq_true (by with_reducible assumption) | (have e_ := (S_reads' HO_5.out).1; omega))
              obtain ⟨ve350_0, rfl, ge350_0⟩ := hMe350
              have hv350_0 := hcc350 0 _ rfl
              rw [Nat.add_zero, show ((Kd.slice 4 Kd.bool)).sz = 1 from rfl, Nat.mul_one] at hv350_0
              replace hv350_0 := Option.some.inj (hv350_0.symm.trans hx350_0)
              rw [hv350_0] at ge350_0
              have HL350_0 := Aside0.mk (show Kd.R Kd.bool 4 _ _ _ _ (rd_L11 t315 x9_4) from ge350_0)
              clear hv350_0 ge350_0
              clear hcc350 hce350
              have HR350_0 := Aside0.mk hi350_0
              have HC350_0 := Aside0.mk hl350_0
              clear hi350_0 hl350_0
              replace p350 := eq_true p350
              replace q350 := eq_true q350
              have ea_ := Option.some.inj (hx334_0.symm.trans hx350_0)
              injection ea_ with ea_ en_ ec_
              subst ea_
              subst ec_
              clear en_
              have p351 : 0 ≤ (x10_6 : Int) := of_decide_eq_true (by with_reducible assumption)
              have q351 : x10_6 < ((rd_L11 t315 x9_4).length : Int) := of_decide_eq_true (by with_reducible assumption)
              obtain ⟨ad351, e351, hx351_0⟩ := Kd.at_bool (by repeat with_reducible first | exact HR350_0.out | refine C_alloc ?_ _ | refine C_drewN ?_ _ | refine C_drew ?_) x10_6 p351 q351
              (try rw [← Nbq46.out] at hx351_0)
              (try rw [← Nbq51.out] at hx351_0)
              (try rw [← Nbq60.out] at hx351_0)
              cases e351
              replace p351 := eq_true p351
              replace q351 := eq_true q351
              go_wp2
              repeat (go_quiet (fail); try go_wp2)
              go_roundg k6
              case measure => have := HK1.out; have := HK2.out; have := HJ21.out; have := HK4.out; have := HJ30.out; have := HK6.out; omega
              case rel => exact ⟨(wrap64 (x10_6 + 1)), (by first | rfl | (simp; done) | (simp [*]; done)), H', ⟨by have := HK1.out; have := HK2.out; have := HJ21.out; have := HK4.out; have := HJ30.out; have := HK6.out; omega⟩, ⟨by (with_reducible repeat (first | apply S_alloc | apply S_drewN | apply S_drew)); exact HO_5.out⟩, ⟨by (with_reducible repeat (first | apply R_alloc | apply R_drewN | apply R_drew)); exact HO_6.out⟩, ⟨by (with_reducible repeat (first | refine blk_drewN ?_ _ | refine blk_drew ?_ | refine blk_alloc ?_ _)); exact BK312.out⟩, ⟨by repeat (first | (with_reducible first | exact HB.out | apply below_alloc | apply pw_below_drewN | apply below_drew1 | refine below_set ?_ GE312.out) | exact HB.out)⟩⟩
            replace c61 := Bool.eq_false_iff.mpr c61
            subst c61
            have H1 : (fettlelaw06_DomOrder.l3 k6 t313 t315 t318 x8_2 x9_4 (wrap64 (x10_6 + 1))) = some r := by rw [if_neg (show ¬ (false = true) by decide)] at H; exact H
            clear H
            have H := H1
            clear H1
            have H' := Aside0.mk H
            clear H
            have p332 : 0 ≤ (x8_2 : Int) := of_decide_eq_true (by with_reducible assumption)
            have q332 : x8_2 < (t315.length : Int) := of_decide_eq_true (by with_reducible assumption)
            obtain ⟨ad332, A332_0, c332_0, e332, hx332_0, hl332_0, hi332_0⟩ := at_L11 (S_reads' HO_5.out).2.2 x8_2 p332 q332
            cases e332
            obtain ⟨ce332, hce332, hMe332, hcc332⟩ := S_get HO_5.out [] x8_2 p332 (by first | exact q332 | exact of_decide_eq_true (by with_reducible assumption) | (have e_ := (S_reads' HO_5.out).1; omega))
            obtain ⟨ve332_0, rfl, ge332_0⟩ := hMe332
            have hv332_0 := hcc332 0 _ rfl
            rw [Nat.add_zero, show ((Kd.slice 4 Kd.bool)).sz = 1 from rfl, Nat.mul_one] at hv332_0
            replace hv332_0 := Option.some.inj (hv332_0.symm.trans hx332_0)
            rw [hv332_0] at ge332_0
            have HL332_0 := Aside0.mk (show Kd.R Kd.bool 4 _ _ _ _ (rd_L11 t315 x8_2) from ge332_0)
            clear hv332_0 ge332_0
            clear hcc332 hce332
            have HR332_0 := Aside0.mk hi332_0
            have HC332_0 := Aside0.mk hl332_0
            clear hi332_0 hl332_0
            replace p332 := eq_true p332
            replace q332 := eq_true q332
            have p333 : 0 ≤ (x10_6 : Int) := of_decide_eq_true (by with_reducible assumption)
            have q333 : x10_6 < ((rd_L11 t315 x8_2).length : Int) := of_decide_eq_true (by with_reducible assumption)
            obtain ⟨ad333, e333, hx333_0⟩ := Kd.at_bool (by repeat with_reducible first | exact HR332_0.out | refine C_alloc ?_ _ | refine C_drewN ?_ _ | refine C_drew ?_) x10_6 p333 q333
            (try rw [← Nbq46.out] at hx333_0)
            (try rw [← Nbq51.out] at hx333_0)
            (try rw [← Nbq60.out] at hx333_0)
            cases e333
            replace p333 := eq_true p333
            replace q333 := eq_true q333
            have p334 : 0 ≤ (x9_4 : Int) := of_decide_eq_true (by with_reducible assumption)
            have q334 : x9_4 < (t315.length : Int) := of_decide_eq_true (by with_reducible assumption)
            obtain ⟨ad334, A334_0, c334_0, e334, hx334_0, hl334_0, hi334_0⟩ := at_L11 (S_reads' HO_5.out).2.2 x9_4 p334 q334
            obtain rfl : ad332 = ad334 := (by injection e334)
            obtain ⟨ce334, hce334, hMe334, hcc334⟩ := S_get HO_5.out [] x9_4 p334 (by first | exact q334 | exact of_decide_eq_true (by with_reducible assumption) | (have e_ := (S_reads' HO_5.out).1; omega))
            obtain ⟨ve334_0, rfl, ge334_0⟩ := hMe334
            have hv334_0 := hcc334 0 _ rfl
            rw [Nat.add_zero, show ((Kd.slice 4 Kd.bool)).sz = 1 from rfl, Nat.mul_one] at hv334_0
            replace hv334_0 := Option.some.inj (hv334_0.symm.trans hx334_0)
            rw [hv334_0] at ge334_0
            have HL334_0 := Aside0.mk (show Kd.R Kd.bool 4 _ _ _ _ (rd_L11 t315 x9_4) from ge334_0)
            clear hv334_0 ge334_0
            clear hcc334 hce334
            have HR334_0 := Aside0.mk hi334_0
            have HC334_0 := Aside0.mk hl334_0
            clear hi334_0 hl334_0
            replace p334 := eq_true p334
            replace q334 := eq_true q334
            have p335 : 0 ≤ (x10_6 : Int) := of_decide_eq_true (by with_reducible assumption)
            have q335 : x10_6 < ((rd_L11 t315 x9_4).length : Int) := of_decide_eq_true (by with_reducible assumption)
            obtain ⟨ad335, e335, hx335_0⟩ := Kd.at_bool (by repeat with_reducible first | exact HR334_0.out | refine C_alloc ?_ _ | refine C_drewN ?_ _ | refine C_drew ?_) x10_6 p335 q335
            (try rw [← Nbq46.out] at hx335_0)
            (try rw [← Nbq51.out] at hx335_0)
            (try rw [← Nbq60.out] at hx335_0)
            cases e335
            replace p335 := eq_true p335
            replace q335 := eq_true q335
            have p348 : 0 ≤ (x8_2 : Int) := of_decide_eq_true (by with_reducible assumption)
            have q348 : x8_2 < (t315.length : Int) := of_decide_eq_true (by with_reducible assumption)
            obtain ⟨ad348, A348_0, c348_0, e348, hx348_0, hl348_0, hi348_0⟩ := at_L11 (S_reads' HO_5.out).2.2 x8_2 p348 q348
            obtain rfl : ad332 = ad348 := (by injection e348)
            obtain ⟨ce348, hce348, hMe348, hcc348⟩ := S_get HO_5.out [] x8_2 p348 (by first | exact q348 | exact of_decide_eq_true (by with_reducible assumption) | (have e_ := (S_reads' HO_5.out).1; omega))
            obtain ⟨ve348_0, rfl, ge348_0⟩ := hMe348
            have hv348_0 := hcc348 0 _ rfl
            rw [Nat.add_zero, show ((Kd.slice 4 Kd.bool)).sz = 1 from rfl, Nat.mul_one] at hv348_0
            replace hv348_0 := Option.some.inj (hv348_0.symm.trans hx348_0)
            rw [hv348_0] at ge348_0
            have HL348_0 := Aside0.mk (show Kd.R Kd.bool 4 _ _ _ _ (rd_L11 t315 x8_2) from ge348_0)
            clear hv348_0 ge348_0
            clear hcc348 hce348
            have HR348_0 := Aside0.mk hi348_0
            have HC348_0 := Aside0.mk hl348_0
            clear hi348_0 hl348_0
            replace p348 := eq_true p348
            replace q348 := eq_true q348
            have ea_ := Option.some.inj (hx332_0.symm.trans hx348_0)
            injection ea_ with ea_ en_ ec_
            subst ea_
            subst ec_
            clear en_
            have p349 : 0 ≤ (x9_4 : Int) := of_decide_eq_true (by with_reducible assumption)
            have q349 : x9_4 < ((rd_L11 t315 x8_2).length : Int) := of_decide_eq_true (by with_reducible assumption)
            obtain ⟨ad349, e349, hx349_0⟩ := Kd.at_bool (by repeat with_reducible first | exact HR348_0.out | refine C_alloc ?_ _ | refine C_drewN ?_ _ | refine C_drew ?_) x9_4 p349 q349
            (try rw [← Nbq46.out] at hx349_0)
            (try rw [← Nbq51.out] at hx349_0)
            (try rw [← Nbq60.out] at hx349_0)
            cases e349
            replace p349 := eq_true p349
            replace q349 := eq_true q349
            go_wp2
            repeat (go_quiet (fail); try go_wp2)
            go_roundg k6
            case measure => have := HK1.out; have := HK2.out; have := HJ21.out; have := HK4.out; have := HJ30.out; have := HK6.out; omega
            case rel => exact ⟨(wrap64 (x10_6 + 1)), (by first | rfl | (simp; done) | (simp [*]; done)), H', ⟨by have := HK1.out; have := HK2.out; have := HJ21.out; have := HK4.out; have := HJ30.out; have := HK6.out; omega⟩, ⟨by (with_reducible repeat (first | apply S_alloc | apply S_drewN | apply S_drew)); exact HO_5.out⟩, ⟨by (with_reducible repeat (first | apply R_alloc | apply R_drewN | apply R_drew)); exact HO_6.out⟩, ⟨by (with_reducible repeat (first | refine blk_drewN ?_ _ | refine blk_drew ?_ | refine blk_alloc ?_ _)); exact BK312.out⟩, ⟨by repeat (first | (with_reducible first | exact HB.out | apply below_alloc | apply pw_below_drewN | apply below_drew1 | refine below_set ?_ GE312.out) | exact HB.out)⟩⟩
          replace c47 := Bool.eq_false_iff.mpr c47
          subst c47
          have H1 : (if 0 ≤ x9_4 then (if x9_4 < ((rd_L11 t315 x8_2).length : Int) then (if rdOf false (rd_L11 t315 x8_2) x9_4 = true then (if x9_4 < (t315.length : Int) then (if x10_6 < ((rd_L11 t315 x9_4).length : Int) then (if rdOf false (rd_L11 t315 x9_4) x10_6 = true then (some false) else (fettlelaw06_DomOrder.l3 k6 t313 t315 t318 x8_2 x9_4 (wrap64 (x10_6 + 1)))) else (none)) else (none)) else (fettlelaw06_DomOrder.l3 k6 t313 t315 t318 x8_2 x9_4 (wrap64 (x10_6 + 1)))) else (none)) else (none)) = some r := by rw [if_neg (show ¬ (false = true) by decide)] at H; exact H
          clear H
          have H := H1
          clear H1
          by_cases c62 : 0 ≤ x9_4
          rotate_left
          · rw [if_neg c62] at H
            exact absurd H (by simp)
          rw [if_pos c62] at H
          have c62b0 : decide (0 ≤ x9_4) = true := decide_eq_true c62
          clear c62
          by_cases c63 : x9_4 < ((rd_L11 t315 x8_2).length : Int)
          rotate_left
          · rw [if_neg c63] at H
            exact absurd H (by simp)
          rw [if_pos c63] at H
          have c63b0 : decide (x9_4 < ((rd_L11 t315 x8_2).length : Int)) = true := decide_eq_true c63
          clear c63
          obtain ⟨bq64, hbq64⟩ : ∃ b_ : Bool, b_ = (rdOf false (rd_L11 t315 x8_2) x9_4) := ⟨_, rfl⟩
          replace H : (if bq64 = true then (if x9_4 < (t315.length : Int) then (if x10_6 < ((rd_L11 t315 x9_4).length : Int) then (if rdOf false (rd_L11 t315 x9_4) x10_6 = true then (some false) else (fettlelaw06_DomOrder.l3 k6 t313 t315 t318 x8_2 x9_4 (wrap64 (x10_6 + 1)))) else (none)) else (none)) else (fettlelaw06_DomOrder.l3 k6 t313 t315 t318 x8_2 x9_4 (wrap64 (x10_6 + 1)))) = some r := by rw [← hbq64] at H; exact H
          have Nbq64 := Aside0.mk hbq64
          clear hbq64
          by_cases c65 : bq64 = true
          · subst c65
            have H1 : (if x9_4 < (t315.length : Int) then (if x10_6 < ((rd_L11 t315 x9_4).length : Int) then (if rdOf false (rd_L11 t315 x9_4) x10_6 = true then (some false) else (fettlelaw06_DomOrder.l3 k6 t313 t315 t318 x8_2 x9_4 (wrap64 (x10_6 + 1)))) else (none)) else (none)) = some r := by rw [if_pos rfl] at H; exact H
            clear H
            have H := H1
            clear H1
            by_cases c66 : x9_4 < (t315.length : Int)
            rotate_left
            · rw [if_neg c66] at H
              exact absurd H (by simp)
            rw [if_pos c66] at H
            have c66b0 : decide (x9_4 < (t315.length : Int)) = true := decide_eq_true c66
            clear c66
            by_cases c67 : x10_6 < ((rd_L11 t315 x9_4).length : Int)
            rotate_left
            · rw [if_neg c67] at H
              exact absurd H (by simp)
            rw [if_pos c67] at H
            have c67b0 : decide (x10_6 < ((rd_L11 t315 x9_4).length : Int)) = true := decide_eq_true c67
            clear c67
            obtain ⟨bq68, hbq68⟩ : ∃ b_ : Bool, b_ = (rdOf false (rd_L11 t315 x9_4) x10_6) := ⟨_, rfl⟩
            replace H : (if bq68 = true then (some false) else (fettlelaw06_DomOrder.l3 k6 t313 t315 t318 x8_2 x9_4 (wrap64 (x10_6 + 1)))) = some r := by rw [← hbq68] at H; exact H
            have Nbq68 := Aside0.mk hbq68
            clear hbq68
            by_cases c69 : bq68 = true
            · subst c69
              have H1 : (some false) = some r := by rw [if_pos rfl] at H; exact H
              clear H
              have H := H1
              clear H1
              obtain rfl := Option.some.inj H
              have p332 : 0 ≤ (x8_2 : Int) := of_decide_eq_true (by with_reducible assumption)
              have q332 : x8_2 < (t315.length : Int) := of_decide_eq_true (by with_reducible assumption)
              obtain ⟨ad332, A332_0, c332_0, e332, hx332_0, hl332_0, hi332_0⟩ := at_L11 (S_reads' HO_5.out).2.2 x8_2 p332 q332
              cases e332
              obtain ⟨ce332, hce332, hMe332, hcc332⟩ := S_get HO_5.out [] x8_2 p332 (by first | exact q332 | exact of_decide_eq_true (by with_reducible assumption) | (have e_ := (S_reads' HO_5.out).1; omega))
              obtain ⟨ve332_0, rfl, ge332_0⟩ := hMe332
              have hv332_0 := hcc332 0 _ rfl
              rw [Nat.add_zero, show ((Kd.slice 4 Kd.bool)).sz = 1 from rfl, Nat.mul_one] at hv332_0
              replace hv332_0 := Option.some.inj (hv332_0.symm.trans hx332_0)
              rw [hv332_0] at ge332_0
              have HL332_0 := Aside0.mk (show Kd.R Kd.bool 4 _ _ _ _ (rd_L11 t315 x8_2) from ge332_0)
              clear hv332_0 ge332_0
              clear hcc332 hce332
              have HR332_0 := Aside0.mk hi332_0
              have HC332_0 := Aside0.mk hl332_0
              clear hi332_0 hl332_0
              replace p332 := eq_true p332
              replace q332 := eq_true q332
              have p333 : 0 ≤ (x10_6 : Int) := of_decide_eq_true (by with_reducible assumption)
              have q333 : x10_6 < ((rd_L11 t315 x8_2).length : Int) := of_decide_eq_true (by with_reducible assumption)
              obtain ⟨ad333, e333, hx333_0⟩ := Kd.at_bool (by repeat with_reducible first | exact HR332_0.out | refine C_alloc ?_ _ | refine C_drewN ?_ _ | refine C_drew ?_) x10_6 p333 q333
              (try rw [← Nbq46.out] at hx333_0)
              (try rw [← Nbq64.out] at hx333_0)
              (try rw [← Nbq68.out] at hx333_0)
              cases e333
              replace p333 := eq_true p333
              replace q333 := eq_true q333
              have p352 : 0 ≤ (x8_2 : Int) := of_decide_eq_true (by with_reducible assumption)
              have q352 : x8_2 < (t315.length : Int) := of_decide_eq_true (by with_reducible assumption)
              obtain ⟨ad352, A352_0, c352_0, e352, hx352_0, hl352_0, hi352_0⟩ := at_L11 (S_reads' HO_5.out).2.2 x8_2 p352 q352
              obtain rfl : ad332 = ad352 := (by injection e352)
              obtain ⟨ce352, hce352, hMe352, hcc352⟩ := S_get HO_5.out [] x8_2 p352 (by first | exact q352 | exact of_decide_eq_true (by with_reducible assumption) | (have e_ := (S_reads' HO_5.out).1; omega))
              obtain ⟨ve352_0, rfl, ge352_0⟩ := hMe352
              have hv352_0 := hcc352 0 _ rfl
              rw [Nat.add_zero, show ((Kd.slice 4 Kd.bool)).sz = 1 from rfl, Nat.mul_one] at hv352_0
              replace hv352_0 := Option.some.inj (hv352_0.symm.trans hx352_0)
              rw [hv352_0] at ge352_0
              have HL352_0 := Aside0.mk (show Kd.R Kd.bool 4 _ _ _ _ (rd_L11 t315 x8_2) from ge352_0)
              clear hv352_0 ge352_0
              clear hcc352 hce352
              have HR352_0 := Aside0.mk hi352_0
              have HC352_0 := Aside0.mk hl352_0
              clear hi352_0 hl352_0
              replace p352 := eq_true p352
              replace q352 := eq_true q352
              have ea_ := Option.some.inj (hx332_0.symm.trans hx352_0)
              injection ea_ with ea_ en_ ec_
              subst ea_
              subst ec_
              clear en_
              have p353 : 0 ≤ (x9_4 : Int) := of_decide_eq_true (by with_reducible assumption)
              have q353 : x9_4 < ((rd_L11 t315 x8_2).length : Int) := of_decide_eq_true (by with_reducible assumption)
              obtain ⟨ad353, e353, hx353_0⟩ := Kd.at_bool (by repeat with_reducible first | exact HR352_0.out | refine C_alloc ?_ _ | refine C_drewN ?_ _ | refine C_drew ?_) x9_4 p353 q353
              (try rw [← Nbq46.out] at hx353_0)
              (try rw [← Nbq64.out] at hx353_0)
              (try rw [← Nbq68.out] at hx353_0)
              cases e353
              replace p353 := eq_true p353
              replace q353 := eq_true q353
              have p354 : 0 ≤ (x9_4 : Int) := of_decide_eq_true (by with_reducible assumption)
              have q354 : x9_4 < (t315.length : Int) := of_decide_eq_true (by with_reducible assumption)
              obtain ⟨ad354, A354_0, c354_0, e354, hx354_0, hl354_0, hi354_0⟩ := at_L11 (S_reads' HO_5.out).2.2 x9_4 p354 q354
              obtain rfl : ad332 = ad354 := (by injection e354)
              obtain ⟨ce354, hce354, hMe354, hcc354⟩ := S_get HO_5.out [] x9_4 p354 (by first | exact q354 | exact of_decide_eq_true (by with_reducible assumption) | (have e_ := (S_reads' HO_5.out).1; omega))
              obtain ⟨ve354_0, rfl, ge354_0⟩ := hMe354
              have hv354_0 := hcc354 0 _ rfl
              rw [Nat.add_zero, show ((Kd.slice 4 Kd.bool)).sz = 1 from rfl, Nat.mul_one] at hv354_0
              replace hv354_0 := Option.some.inj (hv354_0.symm.trans hx354_0)
              rw [hv354_0] at ge354_0
              have HL354_0 := Aside0.mk (show Kd.R Kd.bool 4 _ _ _ _ (rd_L11 t315 x9_4) from ge354_0)
              clear hv354_0 ge354_0
              clear hcc354 hce354
              have HR354_0 := Aside0.mk hi354_0
              have HC354_0 := Aside0.mk hl354_0
              clear hi354_0 hl354_0
              replace p354 := eq_true p354
              replace q354 := eq_true q354
              have p355 : 0 ≤ (x10_6 : Int) := of_decide_eq_true (by with_reducible assumption)
              have q355 : x10_6 < ((rd_L11 t315 x9_4).length : Int) := of_decide_eq_true (by with_reducible assumption)
              obtain ⟨ad355, e355, hx355_0⟩ := Kd.at_bool (by repeat with_reducible first | exact HR354_0.out | refine C_alloc ?_ _ | refine C_drewN ?_ _ | refine C_drew ?_) x10_6 p355 q355
              (try rw [← Nbq46.out] at hx355_0)
              (try rw [← Nbq64.out] at hx355_0)
              (try rw [← Nbq68.out] at hx355_0)
              cases e355
              replace p355 := eq_true p355
              replace q355 := eq_true q355
              have p356 : 0 ≤ (x8_2 : Int) := of_decide_eq_true (by with_reducible assumption)
              have q356 : x8_2 < (t315.length : Int) := of_decide_eq_true (by with_reducible assumption)
              obtain ⟨ad356, A356_0, c356_0, e356, hx356_0, hl356_0, hi356_0⟩ := at_L11 (S_reads' HO_5.out).2.2 x8_2 p356 q356
              obtain rfl : ad332 = ad356 := (by injection e356)
              obtain ⟨ce356, hce356, hMe356, hcc356⟩ := S_get HO_5.out [] x8_2 p356 (by first | exact q356 | exact of_decide_eq_true (by with_reducible assumption) | (have e_ := (S_reads' HO_5.out).1; omega))
              obtain ⟨ve356_0, rfl, ge356_0⟩ := hMe356
              have hv356_0 := hcc356 0 _ rfl
              rw [Nat.add_zero, show ((Kd.slice 4 Kd.bool)).sz = 1 from rfl, Nat.mul_one] at hv356_0
              replace hv356_0 := Option.some.inj (hv356_0.symm.trans hx356_0)
              rw [hv356_0] at ge356_0
              have HL356_0 := Aside0.mk (show Kd.R Kd.bool 4 _ _ _ _ (rd_L11 t315 x8_2) from ge356_0)
              clear hv356_0 ge356_0
              clear hcc356 hce356
              have HR356_0 := Aside0.mk hi356_0
              have HC356_0 := Aside0.mk hl356_0
              clear hi356_0 hl356_0
              replace p356 := eq_true p356
              replace q356 := eq_true q356
              have ea_ := Option.some.inj (hx332_0.symm.trans hx356_0)
              injection ea_ with ea_ en_ ec_
              subst ea_
              subst ec_
              clear en_
              have p357 : 0 ≤ (x10_6 : Int) := of_decide_eq_true (by with_reducible assumption)
              have q357 : x10_6 < ((rd_L11 t315 x8_2).length : Int) := of_decide_eq_true (by with_reducible assumption)
              obtain ⟨ad357, e357, hx357_0⟩ := Kd.at_bool (by repeat with_reducible first | exact HR356_0.out | refine C_alloc ?_ _ | refine C_drewN ?_ _ | refine C_drew ?_) x10_6 p357 q357
              (try rw [← Nbq46.out] at hx357_0)
              (try rw [← Nbq64.out] at hx357_0)
              (try rw [← Nbq68.out] at hx357_0)
              cases e357
              replace p357 := eq_true p357
              replace q357 := eq_true q357
              go_wp2
              repeat (go_quiet (fail); try go_wp2)
              go_ret
              exact ⟨by first | rfl | (simp [errW_none, errW_some] <;> rfl) | (simp [*, errW_none, errW_some] <;> rfl), by repeat (first | (with_reducible first | exact HB.out | apply below_alloc | apply pw_below_drewN | apply below_drew1 | refine below_set ?_ GE312.out) | exact HB.out)⟩
            replace c69 := Bool.eq_false_iff.mpr c69
            subst c69
            have H1 : (fettlelaw06_DomOrder.l3 k6 t313 t315 t318 x8_2 x9_4 (wrap64 (x10_6 + 1))) = some r := by rw [if_neg (show ¬ (false = true) by decide)] at H; exact H
            clear H
            have H := H1
            clear H1
            have H' := Aside0.mk H
            clear H
            have p332 : 0 ≤ (x8_2 : Int) := of_decide_eq_true (by with_reducible assumption)
            have q332 : x8_2 < (t315.length : Int) := of_decide_eq_true (by with_reducible assumption)
            obtain ⟨ad332, A332_0, c332_0, e332, hx332_0, hl332_0, hi332_0⟩ := at_L11 (S_reads' HO_5.out).2.2 x8_2 p332 q332
            cases e332
            obtain ⟨ce332, hce332, hMe332, hcc332⟩ := S_get HO_5.out [] x8_2 p332 (by first | exact q332 | exact of_decide_eq_true (by with_reducible assumption) | (have e_ := (S_reads' HO_5.out).1; omega))
            obtain ⟨ve332_0, rfl, ge332_0⟩ := hMe332
            have hv332_0 := hcc332 0 _ rfl
            rw [Nat.add_zero, show ((Kd.slice 4 Kd.bool)).sz = 1 from rfl, Nat.mul_one] at hv332_0
            replace hv332_0 := Option.some.inj (hv332_0.symm.trans hx332_0)
            rw [hv332_0] at ge332_0
            have HL332_0 := Aside0.mk (show Kd.R Kd.bool 4 _ _ _ _ (rd_L11 t315 x8_2) from ge332_0)
            clear hv332_0 ge332_0
            clear hcc332 hce332
            have HR332_0 := Aside0.mk hi332_0
            have HC332_0 := Aside0.mk hl332_0
            clear hi332_0 hl332_0
            replace p332 := eq_true p332
            replace q332 := eq_true q332
            have p333 : 0 ≤ (x10_6 : Int) := of_decide_eq_true (by with_reducible assumption)
            have q333 : x10_6 < ((rd_L11 t315 x8_2).length : Int) := of_decide_eq_true (by with_reducible assumption)
            obtain ⟨ad333, e333, hx333_0⟩ := Kd.at_bool (by repeat with_reducible first | exact HR332_0.out | refine C_alloc ?_ _ | refine C_drewN ?_ _ | refine C_drew ?_) x10_6 p333 q333
            (try rw [← Nbq46.out] at hx333_0)
            (try rw [← Nbq64.out] at hx333_0)
            (try rw [← Nbq68.out] at hx333_0)
            cases e333
            replace p333 := eq_true p333
            replace q333 := eq_true q333
            have p352 : 0 ≤ (x8_2 : Int) := of_decide_eq_true (by with_reducible assumption)
            have q352 : x8_2 < (t315.length : Int) := of_decide_eq_true (by with_reducible assumption)
            obtain ⟨ad352, A352_0, c352_0, e352, hx352_0, hl352_0, hi352_0⟩ := at_L11 (S_reads' HO_5.out).2.2 x8_2 p352 q352
            obtain rfl : ad332 = ad352 := (by injection e352)
            obtain ⟨ce352, hce352, hMe352, hcc352⟩ := S_get HO_5.out [] x8_2 p352 (by first | exact q352 | exact of_decide_eq_true (by with_reducible assumption) | (have e_ := (S_reads' HO_5.out).1; omega))
            obtain ⟨ve352_0, rfl, ge352_0⟩ := hMe352
            have hv352_0 := hcc352 0 _ rfl
            rw [Nat.add_zero, show ((Kd.slice 4 Kd.bool)).sz = 1 from rfl, Nat.mul_one] at hv352_0
            replace hv352_0 := Option.some.inj (hv352_0.symm.trans hx352_0)
            rw [hv352_0] at ge352_0
            have HL352_0 := Aside0.mk (show Kd.R Kd.bool 4 _ _ _ _ (rd_L11 t315 x8_2) from ge352_0)
            clear hv352_0 ge352_0
            clear hcc352 hce352
            have HR352_0 := Aside0.mk hi352_0
            have HC352_0 := Aside0.mk hl352_0
            clear hi352_0 hl352_0
            replace p352 := eq_true p352
            replace q352 := eq_true q352
            have ea_ := Option.some.inj (hx332_0.symm.trans hx352_0)
            injection ea_ with ea_ en_ ec_
            subst ea_
            subst ec_
            clear en_
            have p353 : 0 ≤ (x9_4 : Int) := of_decide_eq_true (by with_reducible assumption)
            have q353 : x9_4 < ((rd_L11 t315 x8_2).length : Int) := of_decide_eq_true (by with_reducible assumption)
            obtain ⟨ad353, e353, hx353_0⟩ := Kd.at_bool (by repeat with_reducible first | exact HR352_0.out | refine C_alloc ?_ _ | refine C_drewN ?_ _ | refine C_drew ?_) x9_4 p353 q353
            (try rw [← Nbq46.out] at hx353_0)
            (try rw [← Nbq64.out] at hx353_0)
            (try rw [← Nbq68.out] at hx353_0)
            cases e353
            replace p353 := eq_true p353
            replace q353 := eq_true q353
            have p354 : 0 ≤ (x9_4 : Int) := of_decide_eq_true (by with_reducible assumption)
            have q354 : x9_4 < (t315.length : Int) := of_decide_eq_true (by with_reducible assumption)
            obtain ⟨ad354, A354_0, c354_0, e354, hx354_0, hl354_0, hi354_0⟩ := at_L11 (S_reads' HO_5.out).2.2 x9_4 p354 q354
            obtain rfl : ad332 = ad354 := (by injection e354)
            obtain ⟨ce354, hce354, hMe354, hcc354⟩ := S_get HO_5.out [] x9_4 p354 (by first | exact q354 | exact of_decide_eq_true (by with_reducible assumption) | (have e_ := (S_reads' HO_5.out).1; omega))
            obtain ⟨ve354_0, rfl, ge354_0⟩ := hMe354
            have hv354_0 := hcc354 0 _ rfl
            rw [Nat.add_zero, show ((Kd.slice 4 Kd.bool)).sz = 1 from rfl, Nat.mul_one] at hv354_0
            replace hv354_0 := Option.some.inj (hv354_0.symm.trans hx354_0)
            rw [hv354_0] at ge354_0
            have HL354_0 := Aside0.mk (show Kd.R Kd.bool 4 _ _ _ _ (rd_L11 t315 x9_4) from ge354_0)
            clear hv354_0 ge354_0
            clear hcc354 hce354
            have HR354_0 := Aside0.mk hi354_0
            have HC354_0 := Aside0.mk hl354_0
            clear hi354_0 hl354_0
            replace p354 := eq_true p354
            replace q354 := eq_true q354
            have p355 : 0 ≤ (x10_6 : Int) := of_decide_eq_true (by with_reducible assumption)
            have q355 : x10_6 < ((rd_L11 t315 x9_4).length : Int) := of_decide_eq_true (by with_reducible assumption)
            obtain ⟨ad355, e355, hx355_0⟩ := Kd.at_bool (by repeat with_reducible first | exact HR354_0.out | refine C_alloc ?_ _ | refine C_drewN ?_ _ | refine C_drew ?_) x10_6 p355 q355
            (try rw [← Nbq46.out] at hx355_0)
            (try rw [← Nbq64.out] at hx355_0)
            (try rw [← Nbq68.out] at hx355_0)
            cases e355
            replace p355 := eq_true p355
            replace q355 := eq_true q355
            go_wp2
            repeat (go_quiet (fail); try go_wp2)
            go_roundg k6
            case measure => have := HK1.out; have := HK2.out; have := HJ21.out; have := HK4.out; have := HJ30.out; have := HK6.out; omega
            case rel => exact ⟨(wrap64 (x10_6 + 1)), (by first | rfl | (simp; done) | (simp [*]; done)), H', ⟨by have := HK1.out; have := HK2.out; have := HJ21.out; have := HK4.out; have := HJ30.out; have := HK6.out; omega⟩, ⟨by (with_reducible repeat (first | apply S_alloc | apply S_drewN | apply S_drew)); exact HO_5.out⟩, ⟨by (with_reducible repeat (first | apply R_alloc | apply R_drewN | apply R_drew)); exact HO_6.out⟩, ⟨by (with_reducible repeat (first | refine blk_drewN ?_ _ | refine blk_drew ?_ | refine blk_alloc ?_ _)); exact BK312.out⟩, ⟨by repeat (first | (with_reducible first | exact HB.out | apply below_alloc | apply pw_below_drewN | apply below_drew1 | refine below_set ?_ GE312.out) | exact HB.out)⟩⟩
          replace c65 := Bool.eq_false_iff.mpr c65
          subst c65
          have H1 : (fettlelaw06_DomOrder.l3 k6 t313 t315 t318 x8_2 x9_4 (wrap64 (x10_6 + 1))) = some r := by rw [if_neg (show ¬ (false = true) by decide)] at H; exact H
          clear H
          have H := H1
          clear H1
          have H' := Aside0.mk H
          clear H
          have p332 : 0 ≤ (x8_2 : Int) := of_decide_eq_true (by with_reducible assumption)
          have q332 : x8_2 < (t315.length : Int) := of_decide_eq_true (by with_reducible assumption)
          obtain ⟨ad332, A332_0, c332_0, e332, hx332_0, hl332_0, hi332_0⟩ := at_L11 (S_reads' HO_5.out).2.2 x8_2 p332 q332
          cases e332
          obtain ⟨ce332, hce332, hMe332, hcc332⟩ := S_get HO_5.out [] x8_2 p332 (by first | exact q332 | exact of_decide_eq_true (by with_reducible assumption) | (have e_ := (S_reads' HO_5.out).1; omega))
          obtain ⟨ve332_0, rfl, ge332_0⟩ := hMe332
          have hv332_0 := hcc332 0 _ rfl
          rw [Nat.add_zero, show ((Kd.slice 4 Kd.bool)).sz = 1 from rfl, Nat.mul_one] at hv332_0
          replace hv332_0 := Option.some.inj (hv332_0.symm.trans hx332_0)
          rw [hv332_0] at ge332_0
          have HL332_0 := Aside0.mk (show Kd.R Kd.bool 4 _ _ _ _ (rd_L11 t315 x8_2) from ge332_0)
          clear hv332_0 ge332_0
          clear hcc332 hce332
          have HR332_0 := Aside0.mk hi332_0
          have HC332_0 := Aside0.mk hl332_0
          clear hi332_0 hl332_0
          replace p332 := eq_true p332
          replace q332 := eq_true q332
          have p333 : 0 ≤ (x10_6 : Int) := of_decide_eq_true (by with_reducible assumption)
          have q333 : x10_6 < ((rd_L11 t315 x8_2).length : Int) := of_decide_eq_true (by with_reducible assumption)
          obtain ⟨ad333, e333, hx333_0⟩ := Kd.at_bool (by repeat with_reducible first | exact HR332_0.out | refine C_alloc ?_ _ | refine C_drewN ?_ _ | refine C_drew ?_) x10_6 p333 q333
          (try rw [← Nbq46.out] at hx333_0)
          (try rw [← Nbq64.out] at hx333_0)
          cases e333
          replace p333 := eq_true p333
          replace q333 := eq_true q333
          have p352 : 0 ≤ (x8_2 : Int) := of_decide_eq_true (by with_reducible assumption)
          have q352 : x8_2 < (t315.length : Int) := of_decide_eq_true (by with_reducible assumption)
          obtain ⟨ad352, A352_0, c352_0, e352, hx352_0, hl352_0, hi352_0⟩ := at_L11 (S_reads' HO_5.out).2.2 x8_2 p352 q352
          obtain rfl : ad332 = ad352 := (by injection e352)
          obtain ⟨ce352, hce352, hMe352, hcc352⟩ := S_get HO_5.out [] x8_2 p352 (by first | exact q352 | exact of_decide_eq_true (by with_reducible assumption) | (have e_ := (S_reads' HO_5.out).1; omega))
          obtain ⟨ve352_0, rfl, ge352_0⟩ := hMe352
          have hv352_0 := hcc352 0 _ rfl
          rw [Nat.add_zero, show ((Kd.slice 4 Kd.bool)).sz = 1 from rfl, Nat.mul_one] at hv352_0
          replace hv352_0 := Option.some.inj (hv352_0.symm.trans hx352_0)
          rw [hv352_0] at ge352_0
          have HL352_0 := Aside0.mk (show Kd.R Kd.bool 4 _ _ _ _ (rd_L11 t315 x8_2) from ge352_0)
          clear hv352_0 ge352_0
          clear hcc352 hce352
          have HR352_0 := Aside0.mk hi352_0
          have HC352_0 := Aside0.mk hl352_0
          clear hi352_0 hl352_0
          replace p352 := eq_true p352
          replace q352 := eq_true q352
          have ea_ := Option.some.inj (hx332_0.symm.trans hx352_0)
          injection ea_ with ea_ en_ ec_
          subst ea_
          subst ec_
          clear en_
          have p353 : 0 ≤ (x9_4 : Int) := of_decide_eq_true (by with_reducible assumption)
          have q353 : x9_4 < ((rd_L11 t315 x8_2).length : Int) := of_decide_eq_true (by with_reducible assumption)
          obtain ⟨ad353, e353, hx353_0⟩ := Kd.at_bool (by repeat with_reducible first | exact HR352_0.out | refine C_alloc ?_ _ | refine C_drewN ?_ _ | refine C_drew ?_) x9_4 p353 q353
          (try rw [← Nbq46.out] at hx353_0)
          (try rw [← Nbq64.out] at hx353_0)
          cases e353
          replace p353 := eq_true p353
          replace q353 := eq_true q353
          go_wp2
          repeat (go_quiet (fail); try go_wp2)
          go_roundg k6
          case measure => have := HK1.out; have := HK2.out; have := HJ21.out; have := HK4.out; have := HJ30.out; have := HK6.out; omega
          case rel => exact ⟨(wrap64 (x10_6 + 1)), (by first | rfl | (simp; done) | (simp [*]; done)), H', ⟨by have := HK1.out; have := HK2.out; have := HJ21.out; have := HK4.out; have := HJ30.out; have := HK6.out; omega⟩, ⟨by (with_reducible repeat (first | apply S_alloc | apply S_drewN | apply S_drew)); exact HO_5.out⟩, ⟨by (with_reducible repeat (first | apply R_alloc | apply R_drewN | apply R_drew)); exact HO_6.out⟩, ⟨by (with_reducible repeat (first | refine blk_drewN ?_ _ | refine blk_drew ?_ | refine blk_alloc ?_ _)); exact BK312.out⟩, ⟨by repeat (first | (with_reducible first | exact HB.out | apply below_alloc | apply pw_below_drewN | apply below_drew1 | refine below_set ?_ GE312.out) | exact HB.out)⟩⟩
        rw [if_neg c41] at H
        have c41b0 : decide (x10_6 < (t315.length : Int)) = false := decide_eq_false c41
        clear c41
        have H' := Aside0.mk H
        clear H
        go_wp2
        repeat (go_quiet (fail); try go_wp2)
        go_roundg k6
        case measure => have := HK1.out; have := HK2.out; have := HJ21.out; have := HK4.out; have := HJ30.out; have := HK6.out; omega
        case rel => exact ⟨(wrap64 (x9_4 + 1)), (by first | rfl | (simp; done) | (simp [*]; done)), H', ⟨by have := HK1.out; have := HK2.out; have := HJ21.out; have := HK4.out; have := HJ30.out; have := HK6.out; omega⟩, ⟨by (with_reducible repeat (first | apply S_alloc | apply S_drewN | apply S_drew)); exact HO_5.out⟩, ⟨by (with_reducible repeat (first | apply R_alloc | apply R_drewN | apply R_drew)); exact HO_6.out⟩, ⟨by (with_reducible repeat (first | refine blk_drewN ?_ _ | refine blk_drew ?_ | refine blk_alloc ?_ _)); exact BK312.out⟩, ⟨by repeat (first | (with_reducible first | exact HB.out | apply below_alloc | apply pw_below_drewN | apply below_drew1 | refine below_set ?_ GE312.out) | exact HB.out)⟩⟩
      rw [if_neg c30] at H
      have c30b0 : decide (x9_4 < (t315.length : Int)) = false := decide_eq_false c30
      clear c30
      have H' := Aside0.mk H
      clear H
      go_wp2
      repeat (go_quiet (fail); try go_wp2)
      go_roundg k4
      case measure => have := HK1.out; have := HK2.out; have := HJ21.out; have := HK4.out; omega
      case rel => exact ⟨(wrap64 (x8_2 + 1)), (by first | rfl | (simp; done) | (simp [*]; done)), H', ⟨by have := HK1.out; have := HK2.out; have := HJ21.out; have := HK4.out; omega⟩, ⟨by (with_reducible repeat (first | apply S_alloc | apply S_drewN | apply S_drew)); exact HO_5.out⟩, ⟨by (with_reducible repeat (first | apply R_alloc | apply R_drewN | apply R_drew)); exact HO_6.out⟩, ⟨by (with_reducible repeat (first | refine blk_drewN ?_ _ | refine blk_drew ?_ | refine blk_alloc ?_ _)); exact BK312.out⟩, ⟨by repeat (first | (with_reducible first | exact HB.out | apply below_alloc | apply pw_below_drewN | apply below_drew1 | refine below_set ?_ GE312.out) | exact HB.out)⟩⟩
    rw [if_neg c7] at H
    have c7b0 : ((t315.length : Int) == (t318.length : Int)) = false := beq_eq_false_iff_ne.mpr c7
    have c7b1 : ((t315.length : Int) != (t318.length : Int)) = true := bne_iff_ne.mpr c7
    have c7b2 : (t315.length == t318.length) = false := by first | simpa using c7 | (simp at c7 ⊢; omega)
    obtain rfl := Option.some.inj H
    go_enter Try.func4, Try.ntmps4
    go_wp2_with (first | ((with_reducible refine gate_dst (N := 1) rfl ?_); refine box_event ?hg (N := 1) ?hd (cs := #[.int .i64 a0_0, .int .i64 a0_1, .slice A0_2 l0_2.length c0_2, .slice A0_3 l0_3.length c0_3]) (t := 25) ?hr ?_; (case hd => rfl); (case hg => rfl); (case hr => first | (go_simp; done) | (go_simp; rfl)); intro gb312 hg w70 hbox hb; have n0_ := Aside0.mk (below_step (by repeat with_reducible first | exact HB.out | apply below_alloc | apply pw_below_drewN | apply below_drew1) hb); have n1_ := Aside0.mk (hbox); have n2_ := Aside0.mk ((by rw [hg]; exact (below_size (by repeat with_reducible first | exact HB.out | apply below_alloc | apply pw_below_drewN | apply below_drew1)) : w.heap.size ≤ gb312)); have n3_ := Aside0.mk ((by rw [hg]; exact (below_size (by repeat with_reducible first | exact HB.out | apply below_alloc | apply pw_below_drewN | apply below_drew1)) : w.heap.size ≤ gb312)); clear HB; have HB := n0_; have BK312 := n1_; have GW312 := n2_; have GE312 := n3_; clear n0_ n1_ n2_ n3_; clear hb hbox hg) | (go_at_call 11; (with_reducible refine (fettlelaw06_up.calls k  t313 _ A2.out).mono ?_); rintro e w71 ⟨rfl, hb⟩; have n0_ := Aside0.mk (blk_below (g := gb312) (o := .cells #[.int .i64 a0_0, .int .i64 a0_1, .slice A0_2 l0_2.length c0_2, .slice A0_3 l0_3.length c0_3] 25 (0, 0)) (by (with_reducible repeat (first | refine blk_drewN ?_ _ | refine blk_drew ?_ | refine blk_alloc ?_ _)); exact BK312.out) hb); have n1_ := Aside0.mk (below_step (by repeat with_reducible first | exact HB.out | apply below_alloc | apply pw_below_drewN | apply below_drew1 | refine below_set ?_ GE312.out) hb); clear BK312; clear HB; have BK312 := n0_; have HB := n1_; clear n0_ n1_; (try clear hb); (try clear hb2); (try clear hk); (try clear hi); have hcz72_0 : w71.cell? ⟨gb312, 0, none⟩ = some (.int .i64 a0_0) := (blk_cell BK312.out 0).trans rfl; have hcz72_1 : w71.cell? ⟨gb312, 1, none⟩ = some (.int .i64 a0_1) := (blk_cell BK312.out 1).trans rfl; have hcz72_2 : w71.cell? ⟨gb312, 2, none⟩ = some (.slice A0_2 l0_2.length c0_2) := (blk_cell BK312.out 2).trans rfl; have hcz72_3 : w71.cell? ⟨gb312, 3, none⟩ = some (.slice A0_3 l0_3.length c0_3) := (blk_cell BK312.out 3).trans rfl; have hfz72_0 := blk_frozen BK312.out 0; have hfz72_1 := blk_frozen BK312.out 1; have hfz72_2 := blk_frozen BK312.out 2; have hfz72_3 := blk_frozen BK312.out 3) | (go_at_call 12; (with_reducible refine (fettlelaw06_small.calls k a0_0 a0_1 (fun k_ => k_ < w.heap.size) _ _ l0_2 (fun k_ => k_ < w.heap.size) _ _ l0_3 true _ ?side1 ?side2 A3.out).mono ?_); (case side1 => exact Kd.V_mk HC0_2.out (Kd.F_below (Kd.C_F (Kd.heap_int .i64) HR0_2.out) (by repeat with_reducible first | exact HB.out | apply below_alloc | apply pw_below_drewN | apply below_drew1 | refine below_set ?_ GE312.out))); (case side2 => exact Kd.V_mk HC0_3.out (Kd.F_below (Kd.C_F k52_heap HR0_3.out) (by repeat with_reducible first | exact HB.out | apply below_alloc | apply pw_below_drewN | apply below_drew1 | refine below_set ?_ GE312.out))); rintro e w73 ⟨rfl, hb⟩; have n0_ := Aside0.mk (blk_below (g := gb312) (o := .cells #[.int .i64 a0_0, .int .i64 a0_1, .slice A0_2 l0_2.length c0_2, .slice A0_3 l0_3.length c0_3] 25 (0, 0)) (by (with_reducible repeat (first | refine blk_drewN ?_ _ | refine blk_drew ?_ | refine blk_alloc ?_ _)); exact BK312.out) hb); have n1_ := Aside0.mk (below_step (by repeat with_reducible first | exact HB.out | apply below_alloc | apply pw_below_drewN | apply below_drew1 | refine below_set ?_ GE312.out) hb); clear BK312; clear HB; have BK312 := n0_; have HB := n1_; clear n0_ n1_; (try clear hb); (try clear hb2); (try clear hk); (try clear hi); have hcz74_0 : w73.cell? ⟨gb312, 0, none⟩ = some (.int .i64 a0_0) := (blk_cell BK312.out 0).trans rfl; have hcz74_1 : w73.cell? ⟨gb312, 1, none⟩ = some (.int .i64 a0_1) := (blk_cell BK312.out 1).trans rfl; have hcz74_2 : w73.cell? ⟨gb312, 2, none⟩ = some (.slice A0_2 l0_2.length c0_2) := (blk_cell BK312.out 2).trans rfl; have hcz74_3 : w73.cell? ⟨gb312, 3, none⟩ = some (.slice A0_3 l0_3.length c0_3) := (blk_cell BK312.out 3).trans rfl; have hfz74_0 := blk_frozen BK312.out 0; have hfz74_1 := blk_frozen BK312.out 1; have hfz74_2 := blk_frozen BK312.out 2; have hfz74_3 := blk_frozen BK312.out 3) | (go_at_call 17; (with_reducible refine (dom_Dominates.calls k a0_0 a0_1 _ _ l0_2 _ _ l0_3 t315 _ ?side1 ?side2 ?side3 ?side4 A5.out).mono ?_); (case side1 => repeat (first | exact (C_below HR0_2.out HB.out) | (with_reducible refine C_alloc ?_ _) | (with_reducible refine C_drewN ?_ _) | (with_reducible refine C_drew ?_))); (case side2 => exact HC0_2.out); (case side3 => repeat (first | exact (C_below HR0_3.out HB.out) | (with_reducible refine C_alloc ?_ _) | (with_reducible refine C_drewN ?_ _) | (with_reducible refine C_drew ?_))); (case side4 => exact HC0_3.out); rintro e w75 ⟨v316, rfl, ho0, hb⟩; have n0_ := Aside0.mk (Kd.S_lower ho0 (below_size (by repeat with_reducible first | exact HB.out | apply below_alloc | apply pw_below_drewN | apply below_drew1 | refine below_set ?_ GE312.out))); have n1_ := Aside0.mk (blk_below (g := gb312) (o := .cells #[.int .i64 a0_0, .int .i64 a0_1, .slice A0_2 l0_2.length c0_2, .slice A0_3 l0_3.length c0_3] 25 (0, 0)) (by (with_reducible repeat (first | refine blk_drewN ?_ _ | refine blk_drew ?_ | refine blk_alloc ?_ _)); exact BK312.out) hb); have n2_ := Aside0.mk (below_step (by repeat with_reducible first | exact HB.out | apply below_alloc | apply pw_below_drewN | apply below_drew1 | refine below_set ?_ GE312.out) hb); clear BK312; clear HB; have HO317 := n0_; have BK312 := n1_; have HB := n2_; clear n0_ n1_ n2_; (try clear hb); (try clear hb2); (try clear hk); (try clear hi); (try clear ho0); have hcz76_0 : w75.cell? ⟨gb312, 0, none⟩ = some (.int .i64 a0_0) := (blk_cell BK312.out 0).trans rfl; have hcz76_1 : w75.cell? ⟨gb312, 1, none⟩ = some (.int .i64 a0_1) := (blk_cell BK312.out 1).trans rfl; have hcz76_2 : w75.cell? ⟨gb312, 2, none⟩ = some (.slice A0_2 l0_2.length c0_2) := (blk_cell BK312.out 2).trans rfl; have hcz76_3 : w75.cell? ⟨gb312, 3, none⟩ = some (.slice A0_3 l0_3.length c0_3) := (blk_cell BK312.out 3).trans rfl; have hfz76_0 := blk_frozen BK312.out 0; have hfz76_1 := blk_frozen BK312.out 1; have hfz76_2 := blk_frozen BK312.out 2; have hfz76_3 := blk_frozen BK312.out 3) | (go_at_call 18; (with_reducible refine (fettleref05_From.calls k a0_0 a0_1 _ _ l0_2 _ _ l0_3 0 (-1) t318 _ ?side1 ?side2 ?side3 ?side4 A6.out).mono ?_); (case side1 => repeat (first | exact (C_below HR0_2.out HB.out) | (with_reducible refine C_alloc ?_ _) | (with_reducible refine C_drewN ?_ _) | (with_reducible refine C_drew ?_))); (case side2 => exact HC0_2.out); (case side3 => repeat (first | exact (C_below HR0_3.out HB.out) | (with_reducible refine C_alloc ?_ _) | (with_reducible refine C_drewN ?_ _) | (with_reducible refine C_drew ?_))); (case side4 => exact HC0_3.out); rintro e w77 ⟨v319, rfl, ho0, hb⟩; have n0_ := Aside0.mk (Kd.S_elder' (by (with_reducible repeat (first | apply S_alloc | apply S_drewN | apply S_drew)); exact HO317.out) (R_base ho0) hb); have n1_ := Aside0.mk (Kd.R_lower ho0 (below_size (by repeat with_reducible first | exact HB.out | apply below_alloc | apply pw_below_drewN | apply below_drew1 | refine below_set ?_ GE312.out))); have n2_ := Aside0.mk (blk_below (g := gb312) (o := .cells #[.int .i64 a0_0, .int .i64 a0_1, .slice A0_2 l0_2.length c0_2, .slice A0_3 l0_3.length c0_3] 25 (0, 0)) (by (with_reducible repeat (first | refine blk_drewN ?_ _ | refine blk_drew ?_ | refine blk_alloc ?_ _)); exact BK312.out) hb); have n3_ := Aside0.mk (below_step (by repeat with_reducible first | exact HB.out | apply below_alloc | apply pw_below_drewN | apply below_drew1 | refine below_set ?_ GE312.out) hb); clear HO317; clear BK312; clear HB; have HO317 := n0_; have HO320 := n1_; have BK312 := n2_; have HB := n3_; clear n0_ n1_ n2_ n3_; (try clear hb); (try clear hb2); (try clear hk); (try clear hi); (try clear ho0); obtain ⟨Ao78, co78, eo78⟩ := Kd.S_slice HO317.out; subst eo78; obtain ⟨Ao79, co79, eo79⟩ := Kd.R_slice HO320.out; subst eo79))
    repeat (go_quiet (first | ((with_reducible refine gate_dst (N := 1) rfl ?_); refine box_event ?hg (N := 1) ?hd (cs := #[.int .i64 a0_0, .int .i64 a0_1, .slice A0_2 l0_2.length c0_2, .slice A0_3 l0_3.length c0_3]) (t := 25) ?hr ?_; (case hd => rfl); (case hg => rfl); (case hr => first | (go_simp; done) | (go_simp; rfl)); intro gb312 hg w70 hbox hb; have n0_ := Aside0.mk (below_step (by repeat with_reducible first | exact HB.out | apply below_alloc | apply pw_below_drewN | apply below_drew1) hb); have n1_ := Aside0.mk (hbox); have n2_ := Aside0.mk ((by rw [hg]; exact (below_size (by repeat with_reducible first | exact HB.out | apply below_alloc | apply pw_below_drewN | apply below_drew1)) : w.heap.size ≤ gb312)); have n3_ := Aside0.mk ((by rw [hg]; exact (below_size (by repeat with_reducible first | exact HB.out | apply below_alloc | apply pw_below_drewN | apply below_drew1)) : w.heap.size ≤ gb312)); clear HB; have HB := n0_; have BK312 := n1_; have GW312 := n2_; have GE312 := n3_; clear n0_ n1_ n2_ n3_; clear hb hbox hg) | (go_at_call 11; (with_reducible refine (fettlelaw06_up.calls k  t313 _ A2.out).mono ?_); rintro e w71 ⟨rfl, hb⟩; have n0_ := Aside0.mk (blk_below (g := gb312) (o := .cells #[.int .i64 a0_0, .int .i64 a0_1, .slice A0_2 l0_2.length c0_2, .slice A0_3 l0_3.length c0_3] 25 (0, 0)) (by (with_reducible repeat (first | refine blk_drewN ?_ _ | refine blk_drew ?_ | refine blk_alloc ?_ _)); exact BK312.out) hb); have n1_ := Aside0.mk (below_step (by repeat with_reducible first | exact HB.out | apply below_alloc | apply pw_below_drewN | apply below_drew1 | refine below_set ?_ GE312.out) hb); clear BK312; clear HB; have BK312 := n0_; have HB := n1_; clear n0_ n1_; (try clear hb); (try clear hb2); (try clear hk); (try clear hi); have hcz72_0 : w71.cell? ⟨gb312, 0, none⟩ = some (.int .i64 a0_0) := (blk_cell BK312.out 0).trans rfl; have hcz72_1 : w71.cell? ⟨gb312, 1, none⟩ = some (.int .i64 a0_1) := (blk_cell BK312.out 1).trans rfl; have hcz72_2 : w71.cell? ⟨gb312, 2, none⟩ = some (.slice A0_2 l0_2.length c0_2) := (blk_cell BK312.out 2).trans rfl; have hcz72_3 : w71.cell? ⟨gb312, 3, none⟩ = some (.slice A0_3 l0_3.length c0_3) := (blk_cell BK312.out 3).trans rfl; have hfz72_0 := blk_frozen BK312.out 0; have hfz72_1 := blk_frozen BK312.out 1; have hfz72_2 := blk_frozen BK312.out 2; have hfz72_3 := blk_frozen BK312.out 3) | (go_at_call 12; (with_reducible refine (fettlelaw06_small.calls k a0_0 a0_1 (fun k_ => k_ < w.heap.size) _ _ l0_2 (fun k_ => k_ < w.heap.size) _ _ l0_3 true _ ?side1 ?side2 A3.out).mono ?_); (case side1 => exact Kd.V_mk HC0_2.out (Kd.F_below (Kd.C_F (Kd.heap_int .i64) HR0_2.out) (by repeat with_reducible first | exact HB.out | apply below_alloc | apply pw_below_drewN | apply below_drew1 | refine below_set ?_ GE312.out))); (case side2 => exact Kd.V_mk HC0_3.out (Kd.F_below (Kd.C_F k52_heap HR0_3.out) (by repeat with_reducible first | exact HB.out | apply below_alloc | apply pw_below_drewN | apply below_drew1 | refine below_set ?_ GE312.out))); rintro e w73 ⟨rfl, hb⟩; have n0_ := Aside0.mk (blk_below (g := gb312) (o := .cells #[.int .i64 a0_0, .int .i64 a0_1, .slice A0_2 l0_2.length c0_2, .slice A0_3 l0_3.length c0_3] 25 (0, 0)) (by (with_reducible repeat (first | refine blk_drewN ?_ _ | refine blk_drew ?_ | refine blk_alloc ?_ _)); exact BK312.out) hb); have n1_ := Aside0.mk (below_step (by repeat with_reducible first | exact HB.out | apply below_alloc | apply pw_below_drewN | apply below_drew1 | refine below_set ?_ GE312.out) hb); clear BK312; clear HB; have BK312 := n0_; have HB := n1_; clear n0_ n1_; (try clear hb); (try clear hb2); (try clear hk); (try clear hi); have hcz74_0 : w73.cell? ⟨gb312, 0, none⟩ = some (.int .i64 a0_0) := (blk_cell BK312.out 0).trans rfl; have hcz74_1 : w73.cell? ⟨gb312, 1, none⟩ = some (.int .i64 a0_1) := (blk_cell BK312.out 1).trans rfl; have hcz74_2 : w73.cell? ⟨gb312, 2, none⟩ = some (.slice A0_2 l0_2.length c0_2) := (blk_cell BK312.out 2).trans rfl; have hcz74_3 : w73.cell? ⟨gb312, 3, none⟩ = some (.slice A0_3 l0_3.length c0_3) := (blk_cell BK312.out 3).trans rfl; have hfz74_0 := blk_frozen BK312.out 0; have hfz74_1 := blk_frozen BK312.out 1; have hfz74_2 := blk_frozen BK312.out 2; have hfz74_3 := blk_frozen BK312.out 3) | (go_at_call 17; (with_reducible refine (dom_Dominates.calls k a0_0 a0_1 _ _ l0_2 _ _ l0_3 t315 _ ?side1 ?side2 ?side3 ?side4 A5.out).mono ?_); (case side1 => repeat (first | exact (C_below HR0_2.out HB.out) | (with_reducible refine C_alloc ?_ _) | (with_reducible refine C_drewN ?_ _) | (with_reducible refine C_drew ?_))); (case side2 => exact HC0_2.out); (case side3 => repeat (first | exact (C_below HR0_3.out HB.out) | (with_reducible refine C_alloc ?_ _) | (with_reducible refine C_drewN ?_ _) | (with_reducible refine C_drew ?_))); (case side4 => exact HC0_3.out); rintro e w75 ⟨v316, rfl, ho0, hb⟩; have n0_ := Aside0.mk (Kd.S_lower ho0 (below_size (by repeat with_reducible first | exact HB.out | apply below_alloc | apply pw_below_drewN | apply below_drew1 | refine below_set ?_ GE312.out))); have n1_ := Aside0.mk (blk_below (g := gb312) (o := .cells #[.int .i64 a0_0, .int .i64 a0_1, .slice A0_2 l0_2.length c0_2, .slice A0_3 l0_3.length c0_3] 25 (0, 0)) (by (with_reducible repeat (first | refine blk_drewN ?_ _ | refine blk_drew ?_ | refine blk_alloc ?_ _)); exact BK312.out) hb); have n2_ := Aside0.mk (below_step (by repeat with_reducible first | exact HB.out | apply below_alloc | apply pw_below_drewN | apply below_drew1 | refine below_set ?_ GE312.out) hb); clear BK312; clear HB; have HO317 := n0_; have BK312 := n1_; have HB := n2_; clear n0_ n1_ n2_; (try clear hb); (try clear hb2); (try clear hk); (try clear hi); (try clear ho0); have hcz76_0 : w75.cell? ⟨gb312, 0, none⟩ = some (.int .i64 a0_0) := (blk_cell BK312.out 0).trans rfl; have hcz76_1 : w75.cell? ⟨gb312, 1, none⟩ = some (.int .i64 a0_1) := (blk_cell BK312.out 1).trans rfl; have hcz76_2 : w75.cell? ⟨gb312, 2, none⟩ = some (.slice A0_2 l0_2.length c0_2) := (blk_cell BK312.out 2).trans rfl; have hcz76_3 : w75.cell? ⟨gb312, 3, none⟩ = some (.slice A0_3 l0_3.length c0_3) := (blk_cell BK312.out 3).trans rfl; have hfz76_0 := blk_frozen BK312.out 0; have hfz76_1 := blk_frozen BK312.out 1; have hfz76_2 := blk_frozen BK312.out 2; have hfz76_3 := blk_frozen BK312.out 3) | (go_at_call 18; (with_reducible refine (fettleref05_From.calls k a0_0 a0_1 _ _ l0_2 _ _ l0_3 0 (-1) t318 _ ?side1 ?side2 ?side3 ?side4 A6.out).mono ?_); (case side1 => repeat (first | exact (C_below HR0_2.out HB.out) | (with_reducible refine C_alloc ?_ _) | (with_reducible refine C_drewN ?_ _) | (with_reducible refine C_drew ?_))); (case side2 => exact HC0_2.out); (case side3 => repeat (first | exact (C_below HR0_3.out HB.out) | (with_reducible refine C_alloc ?_ _) | (with_reducible refine C_drewN ?_ _) | (with_reducible refine C_drew ?_))); (case side4 => exact HC0_3.out); rintro e w77 ⟨v319, rfl, ho0, hb⟩; have n0_ := Aside0.mk (Kd.S_elder' (by (with_reducible repeat (first | apply S_alloc | apply S_drewN | apply S_drew)); exact HO317.out) (R_base ho0) hb); have n1_ := Aside0.mk (Kd.R_lower ho0 (below_size (by repeat with_reducible first | exact HB.out | apply below_alloc | apply pw_below_drewN | apply below_drew1 | refine below_set ?_ GE312.out))); have n2_ := Aside0.mk (blk_below (g := gb312) (o := .cells #[.int .i64 a0_0, .int .i64 a0_1, .slice A0_2 l0_2.length c0_2, .slice A0_3 l0_3.length c0_3] 25 (0, 0)) (by (with_reducible repeat (first | refine blk_drewN ?_ _ | refine blk_drew ?_ | refine blk_alloc ?_ _)); exact BK312.out) hb); have n3_ := Aside0.mk (below_step (by repeat with_reducible first | exact HB.out | apply below_alloc | apply pw_below_drewN | apply below_drew1 | refine below_set ?_ GE312.out) hb); clear HO317; clear BK312; clear HB; have HO317 := n0_; have HO320 := n1_; have BK312 := n2_; have HB := n3_; clear n0_ n1_ n2_ n3_; (try clear hb); (try clear hb2); (try clear hk); (try clear hi); (try clear ho0); obtain ⟨Ao78, co78, eo78⟩ := Kd.S_slice HO317.out; subst eo78; obtain ⟨Ao79, co79, eo79⟩ := Kd.R_slice HO320.out; subst eo79)); try go_wp2_with (first | ((with_reducible refine gate_dst (N := 1) rfl ?_); refine box_event ?hg (N := 1) ?hd (cs := #[.int .i64 a0_0, .int .i64 a0_1, .slice A0_2 l0_2.length c0_2, .slice A0_3 l0_3.length c0_3]) (t := 25) ?hr ?_; (case hd => rfl); (case hg => rfl); (case hr => first | (go_simp; done) | (go_simp; rfl)); intro gb312 hg w70 hbox hb; have n0_ := Aside0.mk (below_step (by repeat with_reducible first | exact HB.out | apply below_alloc | apply pw_below_drewN | apply below_drew1) hb); have n1_ := Aside0.mk (hbox); have n2_ := Aside0.mk ((by rw [hg]; exact (below_size (by repeat with_reducible first | exact HB.out | apply below_alloc | apply pw_below_drewN | apply below_drew1)) : w.heap.size ≤ gb312)); have n3_ := Aside0.mk ((by rw [hg]; exact (below_size (by repeat with_reducible first | exact HB.out | apply below_alloc | apply pw_below_drewN | apply below_drew1)) : w.heap.size ≤ gb312)); clear HB; have HB := n0_; have BK312 := n1_; have GW312 := n2_; have GE312 := n3_; clear n0_ n1_ n2_ n3_; clear hb hbox hg) | (go_at_call 11; (with_reducible refine (fettlelaw06_up.calls k  t313 _ A2.out).mono ?_); rintro e w71 ⟨rfl, hb⟩; have n0_ := Aside0.mk (blk_below (g := gb312) (o := .cells #[.int .i64 a0_0, .int .i64 a0_1, .slice A0_2 l0_2.length c0_2, .slice A0_3 l0_3.length c0_3] 25 (0, 0)) (by (with_reducible repeat (first | refine blk_drewN ?_ _ | refine blk_drew ?_ | refine blk_alloc ?_ _)); exact BK312.out) hb); have n1_ := Aside0.mk (below_step (by repeat with_reducible first | exact HB.out | apply below_alloc | apply pw_below_drewN | apply below_drew1 | refine below_set ?_ GE312.out) hb); clear BK312; clear HB; have BK312 := n0_; have HB := n1_; clear n0_ n1_; (try clear hb); (try clear hb2); (try clear hk); (try clear hi); have hcz72_0 : w71.cell? ⟨gb312, 0, none⟩ = some (.int .i64 a0_0) := (blk_cell BK312.out 0).trans rfl; have hcz72_1 : w71.cell? ⟨gb312, 1, none⟩ = some (.int .i64 a0_1) := (blk_cell BK312.out 1).trans rfl; have hcz72_2 : w71.cell? ⟨gb312, 2, none⟩ = some (.slice A0_2 l0_2.length c0_2) := (blk_cell BK312.out 2).trans rfl; have hcz72_3 : w71.cell? ⟨gb312, 3, none⟩ = some (.slice A0_3 l0_3.length c0_3) := (blk_cell BK312.out 3).trans rfl; have hfz72_0 := blk_frozen BK312.out 0; have hfz72_1 := blk_frozen BK312.out 1; have hfz72_2 := blk_frozen BK312.out 2; have hfz72_3 := blk_frozen BK312.out 3) | (go_at_call 12; (with_reducible refine (fettlelaw06_small.calls k a0_0 a0_1 (fun k_ => k_ < w.heap.size) _ _ l0_2 (fun k_ => k_ < w.heap.size) _ _ l0_3 true _ ?side1 ?side2 A3.out).mono ?_); (case side1 => exact Kd.V_mk HC0_2.out (Kd.F_below (Kd.C_F (Kd.heap_int .i64) HR0_2.out) (by repeat with_reducible first | exact HB.out | apply below_alloc | apply pw_below_drewN | apply below_drew1 | refine below_set ?_ GE312.out))); (case side2 => exact Kd.V_mk HC0_3.out (Kd.F_below (Kd.C_F k52_heap HR0_3.out) (by repeat with_reducible first | exact HB.out | apply below_alloc | apply pw_below_drewN | apply below_drew1 | refine below_set ?_ GE312.out))); rintro e w73 ⟨rfl, hb⟩; have n0_ := Aside0.mk (blk_below (g := gb312) (o := .cells #[.int .i64 a0_0, .int .i64 a0_1, .slice A0_2 l0_2.length c0_2, .slice A0_3 l0_3.length c0_3] 25 (0, 0)) (by (with_reducible repeat (first | refine blk_drewN ?_ _ | refine blk_drew ?_ | refine blk_alloc ?_ _)); exact BK312.out) hb); have n1_ := Aside0.mk (below_step (by repeat with_reducible first | exact HB.out | apply below_alloc | apply pw_below_drewN | apply below_drew1 | refine below_set ?_ GE312.out) hb); clear BK312; clear HB; have BK312 := n0_; have HB := n1_; clear n0_ n1_; (try clear hb); (try clear hb2); (try clear hk); (try clear hi); have hcz74_0 : w73.cell? ⟨gb312, 0, none⟩ = some (.int .i64 a0_0) := (blk_cell BK312.out 0).trans rfl; have hcz74_1 : w73.cell? ⟨gb312, 1, none⟩ = some (.int .i64 a0_1) := (blk_cell BK312.out 1).trans rfl; have hcz74_2 : w73.cell? ⟨gb312, 2, none⟩ = some (.slice A0_2 l0_2.length c0_2) := (blk_cell BK312.out 2).trans rfl; have hcz74_3 : w73.cell? ⟨gb312, 3, none⟩ = some (.slice A0_3 l0_3.length c0_3) := (blk_cell BK312.out 3).trans rfl; have hfz74_0 := blk_frozen BK312.out 0; have hfz74_1 := blk_frozen BK312.out 1; have hfz74_2 := blk_frozen BK312.out 2; have hfz74_3 := blk_frozen BK312.out 3) | (go_at_call 17; (with_reducible refine (dom_Dominates.calls k a0_0 a0_1 _ _ l0_2 _ _ l0_3 t315 _ ?side1 ?side2 ?side3 ?side4 A5.out).mono ?_); (case side1 => repeat (first | exact (C_below HR0_2.out HB.out) | (with_reducible refine C_alloc ?_ _) | (with_reducible refine C_drewN ?_ _) | (with_reducible refine C_drew ?_))); (case side2 => exact HC0_2.out); (case side3 => repeat (first | exact (C_below HR0_3.out HB.out) | (with_reducible refine C_alloc ?_ _) | (with_reducible refine C_drewN ?_ _) | (with_reducible refine C_drew ?_))); (case side4 => exact HC0_3.out); rintro e w75 ⟨v316, rfl, ho0, hb⟩; have n0_ := Aside0.mk (Kd.S_lower ho0 (below_size (by repeat with_reducible first | exact HB.out | apply below_alloc | apply pw_below_drewN | apply below_drew1 | refine below_set ?_ GE312.out))); have n1_ := Aside0.mk (blk_below (g := gb312) (o := .cells #[.int .i64 a0_0, .int .i64 a0_1, .slice A0_2 l0_2.length c0_2, .slice A0_3 l0_3.length c0_3] 25 (0, 0)) (by (with_reducible repeat (first | refine blk_drewN ?_ _ | refine blk_drew ?_ | refine blk_alloc ?_ _)); exact BK312.out) hb); have n2_ := Aside0.mk (below_step (by repeat with_reducible first | exact HB.out | apply below_alloc | apply pw_below_drewN | apply below_drew1 | refine below_set ?_ GE312.out) hb); clear BK312; clear HB; have HO317 := n0_; have BK312 := n1_; have HB := n2_; clear n0_ n1_ n2_; (try clear hb); (try clear hb2); (try clear hk); (try clear hi); (try clear ho0); have hcz76_0 : w75.cell? ⟨gb312, 0, none⟩ = some (.int .i64 a0_0) := (blk_cell BK312.out 0).trans rfl; have hcz76_1 : w75.cell? ⟨gb312, 1, none⟩ = some (.int .i64 a0_1) := (blk_cell BK312.out 1).trans rfl; have hcz76_2 : w75.cell? ⟨gb312, 2, none⟩ = some (.slice A0_2 l0_2.length c0_2) := (blk_cell BK312.out 2).trans rfl; have hcz76_3 : w75.cell? ⟨gb312, 3, none⟩ = some (.slice A0_3 l0_3.length c0_3) := (blk_cell BK312.out 3).trans rfl; have hfz76_0 := blk_frozen BK312.out 0; have hfz76_1 := blk_frozen BK312.out 1; have hfz76_2 := blk_frozen BK312.out 2; have hfz76_3 := blk_frozen BK312.out 3) | (go_at_call 18; (with_reducible refine (fettleref05_From.calls k a0_0 a0_1 _ _ l0_2 _ _ l0_3 0 (-1) t318 _ ?side1 ?side2 ?side3 ?side4 A6.out).mono ?_); (case side1 => repeat (first | exact (C_below HR0_2.out HB.out) | (with_reducible refine C_alloc ?_ _) | (with_reducible refine C_drewN ?_ _) | (with_reducible refine C_drew ?_))); (case side2 => exact HC0_2.out); (case side3 => repeat (first | exact (C_below HR0_3.out HB.out) | (with_reducible refine C_alloc ?_ _) | (with_reducible refine C_drewN ?_ _) | (with_reducible refine C_drew ?_))); (case side4 => exact HC0_3.out); rintro e w77 ⟨v319, rfl, ho0, hb⟩; have n0_ := Aside0.mk (Kd.S_elder' (by (with_reducible repeat (first | apply S_alloc | apply S_drewN | apply S_drew)); exact HO317.out) (R_base ho0) hb); have n1_ := Aside0.mk (Kd.R_lower ho0 (below_size (by repeat with_reducible first | exact HB.out | apply below_alloc | apply pw_below_drewN | apply below_drew1 | refine below_set ?_ GE312.out))); have n2_ := Aside0.mk (blk_below (g := gb312) (o := .cells #[.int .i64 a0_0, .int .i64 a0_1, .slice A0_2 l0_2.length c0_2, .slice A0_3 l0_3.length c0_3] 25 (0, 0)) (by (with_reducible repeat (first | refine blk_drewN ?_ _ | refine blk_drew ?_ | refine blk_alloc ?_ _)); exact BK312.out) hb); have n3_ := Aside0.mk (below_step (by repeat with_reducible first | exact HB.out | apply below_alloc | apply pw_below_drewN | apply below_drew1 | refine below_set ?_ GE312.out) hb); clear HO317; clear BK312; clear HB; have HO317 := n0_; have HO320 := n1_; have BK312 := n2_; have HB := n3_; clear n0_ n1_ n2_ n3_; (try clear hb); (try clear hb2); (try clear hk); (try clear hi); (try clear ho0); obtain ⟨Ao78, co78, eo78⟩ := Kd.S_slice HO317.out; subst eo78; obtain ⟨Ao79, co79, eo79⟩ := Kd.R_slice HO320.out; subst eo79)))
    go_ret
    exact ⟨by first | rfl | (simp [errW_none, errW_some] <;> rfl) | (simp [*, errW_none, errW_some] <;> rfl), by repeat (first | (with_reducible first | exact HB.out | apply below_alloc | apply pw_below_drewN | apply below_drew1 | refine below_set ?_ GE312.out) | exact HB.out)⟩
  replace c4 := Bool.eq_false_iff.mpr c4
  subst c4
  have H1 : (some t313) = some r := by rw [if_neg (show ¬ (false = true) by decide)] at H; exact H
  clear H
  have H := H1
  clear H1
  obtain rfl := Option.some.inj H
  go_enter Try.func4, Try.ntmps4
  go_wp2_with (first | ((with_reducible refine gate_dst (N := 1) rfl ?_); refine box_event ?hg (N := 1) ?hd (cs := #[.int .i64 a0_0, .int .i64 a0_1, .slice A0_2 l0_2.length c0_2, .slice A0_3 l0_3.length c0_3]) (t := 25) ?hr ?_; (case hd => rfl); (case hg => rfl); (case hr => first | (go_simp; done) | (go_simp; rfl)); intro gb312 hg w80 hbox hb; have n0_ := Aside0.mk (below_step (by repeat with_reducible first | exact HB.out | apply below_alloc | apply pw_below_drewN | apply below_drew1) hb); have n1_ := Aside0.mk (hbox); have n2_ := Aside0.mk ((by rw [hg]; exact (below_size (by repeat with_reducible first | exact HB.out | apply below_alloc | apply pw_below_drewN | apply below_drew1)) : w.heap.size ≤ gb312)); have n3_ := Aside0.mk ((by rw [hg]; exact (below_size (by repeat with_reducible first | exact HB.out | apply below_alloc | apply pw_below_drewN | apply below_drew1)) : w.heap.size ≤ gb312)); clear HB; have HB := n0_; have BK312 := n1_; have GW312 := n2_; have GE312 := n3_; clear n0_ n1_ n2_ n3_; clear hb hbox hg) | (go_at_call 11; (with_reducible refine (fettlelaw06_up.calls k  t313 _ A2.out).mono ?_); rintro e w81 ⟨rfl, hb⟩; have n0_ := Aside0.mk (blk_below (g := gb312) (o := .cells #[.int .i64 a0_0, .int .i64 a0_1, .slice A0_2 l0_2.length c0_2, .slice A0_3 l0_3.length c0_3] 25 (0, 0)) (by (with_reducible repeat (first | refine blk_drewN ?_ _ | refine blk_drew ?_ | refine blk_alloc ?_ _)); exact BK312.out) hb); have n1_ := Aside0.mk (below_step (by repeat with_reducible first | exact HB.out | apply below_alloc | apply pw_below_drewN | apply below_drew1 | refine below_set ?_ GE312.out) hb); clear BK312; clear HB; have BK312 := n0_; have HB := n1_; clear n0_ n1_; (try clear hb); (try clear hb2); (try clear hk); (try clear hi); have hcz82_0 : w81.cell? ⟨gb312, 0, none⟩ = some (.int .i64 a0_0) := (blk_cell BK312.out 0).trans rfl; have hcz82_1 : w81.cell? ⟨gb312, 1, none⟩ = some (.int .i64 a0_1) := (blk_cell BK312.out 1).trans rfl; have hcz82_2 : w81.cell? ⟨gb312, 2, none⟩ = some (.slice A0_2 l0_2.length c0_2) := (blk_cell BK312.out 2).trans rfl; have hcz82_3 : w81.cell? ⟨gb312, 3, none⟩ = some (.slice A0_3 l0_3.length c0_3) := (blk_cell BK312.out 3).trans rfl; have hfz82_0 := blk_frozen BK312.out 0; have hfz82_1 := blk_frozen BK312.out 1; have hfz82_2 := blk_frozen BK312.out 2; have hfz82_3 := blk_frozen BK312.out 3) | (go_at_call 12; (with_reducible refine (fettlelaw06_small.calls k a0_0 a0_1 (fun k_ => k_ < w.heap.size) _ _ l0_2 (fun k_ => k_ < w.heap.size) _ _ l0_3 false _ ?side1 ?side2 A3.out).mono ?_); (case side1 => exact Kd.V_mk HC0_2.out (Kd.F_below (Kd.C_F (Kd.heap_int .i64) HR0_2.out) (by repeat with_reducible first | exact HB.out | apply below_alloc | apply pw_below_drewN | apply below_drew1 | refine below_set ?_ GE312.out))); (case side2 => exact Kd.V_mk HC0_3.out (Kd.F_below (Kd.C_F k52_heap HR0_3.out) (by repeat with_reducible first | exact HB.out | apply below_alloc | apply pw_below_drewN | apply below_drew1 | refine below_set ?_ GE312.out))); rintro e w83 ⟨rfl, hb⟩; have n0_ := Aside0.mk (blk_below (g := gb312) (o := .cells #[.int .i64 a0_0, .int .i64 a0_1, .slice A0_2 l0_2.length c0_2, .slice A0_3 l0_3.length c0_3] 25 (0, 0)) (by (with_reducible repeat (first | refine blk_drewN ?_ _ | refine blk_drew ?_ | refine blk_alloc ?_ _)); exact BK312.out) hb); have n1_ := Aside0.mk (below_step (by repeat with_reducible first | exact HB.out | apply below_alloc | apply pw_below_drewN | apply below_drew1 | refine below_set ?_ GE312.out) hb); clear BK312; clear HB; have BK312 := n0_; have HB := n1_; clear n0_ n1_; (try clear hb); (try clear hb2); (try clear hk); (try clear hi)))
  repeat (go_quiet (first | ((with_reducible refine gate_dst (N := 1) rfl ?_); refine box_event ?hg (N := 1) ?hd (cs := #[.int .i64 a0_0, .int .i64 a0_1, .slice A0_2 l0_2.length c0_2, .slice A0_3 l0_3.length c0_3]) (t := 25) ?hr ?_; (case hd => rfl); (case hg => rfl); (case hr => first | (go_simp; done) | (go_simp; rfl)); intro gb312 hg w80 hbox hb; have n0_ := Aside0.mk (below_step (by repeat with_reducible first | exact HB.out | apply below_alloc | apply pw_below_drewN | apply below_drew1) hb); have n1_ := Aside0.mk (hbox); have n2_ := Aside0.mk ((by rw [hg]; exact (below_size (by repeat with_reducible first | exact HB.out | apply below_alloc | apply pw_below_drewN | apply below_drew1)) : w.heap.size ≤ gb312)); have n3_ := Aside0.mk ((by rw [hg]; exact (below_size (by repeat with_reducible first | exact HB.out | apply below_alloc | apply pw_below_drewN | apply below_drew1)) : w.heap.size ≤ gb312)); clear HB; have HB := n0_; have BK312 := n1_; have GW312 := n2_; have GE312 := n3_; clear n0_ n1_ n2_ n3_; clear hb hbox hg) | (go_at_call 11; (with_reducible refine (fettlelaw06_up.calls k  t313 _ A2.out).mono ?_); rintro e w81 ⟨rfl, hb⟩; have n0_ := Aside0.mk (blk_below (g := gb312) (o := .cells #[.int .i64 a0_0, .int .i64 a0_1, .slice A0_2 l0_2.length c0_2, .slice A0_3 l0_3.length c0_3] 25 (0, 0)) (by (with_reducible repeat (first | refine blk_drewN ?_ _ | refine blk_drew ?_ | refine blk_alloc ?_ _)); exact BK312.out) hb); have n1_ := Aside0.mk (below_step (by repeat with_reducible first | exact HB.out | apply below_alloc | apply pw_below_drewN | apply below_drew1 | refine below_set ?_ GE312.out) hb); clear BK312; clear HB; have BK312 := n0_; have HB := n1_; clear n0_ n1_; (try clear hb); (try clear hb2); (try clear hk); (try clear hi); have hcz82_0 : w81.cell? ⟨gb312, 0, none⟩ = some (.int .i64 a0_0) := (blk_cell BK312.out 0).trans rfl; have hcz82_1 : w81.cell? ⟨gb312, 1, none⟩ = some (.int .i64 a0_1) := (blk_cell BK312.out 1).trans rfl; have hcz82_2 : w81.cell? ⟨gb312, 2, none⟩ = some (.slice A0_2 l0_2.length c0_2) := (blk_cell BK312.out 2).trans rfl; have hcz82_3 : w81.cell? ⟨gb312, 3, none⟩ = some (.slice A0_3 l0_3.length c0_3) := (blk_cell BK312.out 3).trans rfl; have hfz82_0 := blk_frozen BK312.out 0; have hfz82_1 := blk_frozen BK312.out 1; have hfz82_2 := blk_frozen BK312.out 2; have hfz82_3 := blk_frozen BK312.out 3) | (go_at_call 12; (with_reducible refine (fettlelaw06_small.calls k a0_0 a0_1 (fun k_ => k_ < w.heap.size) _ _ l0_2 (fun k_ => k_ < w.heap.size) _ _ l0_3 false _ ?side1 ?side2 A3.out).mono ?_); (case side1 => exact Kd.V_mk HC0_2.out (Kd.F_below (Kd.C_F (Kd.heap_int .i64) HR0_2.out) (by repeat with_reducible first | exact HB.out | apply below_alloc | apply pw_below_drewN | apply below_drew1 | refine below_set ?_ GE312.out))); (case side2 => exact Kd.V_mk HC0_3.out (Kd.F_below (Kd.C_F k52_heap HR0_3.out) (by repeat with_reducible first | exact HB.out | apply below_alloc | apply pw_below_drewN | apply below_drew1 | refine below_set ?_ GE312.out))); rintro e w83 ⟨rfl, hb⟩; have n0_ := Aside0.mk (blk_below (g := gb312) (o := .cells #[.int .i64 a0_0, .int .i64 a0_1, .slice A0_2 l0_2.length c0_2, .slice A0_3 l0_3.length c0_3] 25 (0, 0)) (by (with_reducible repeat (first | refine blk_drewN ?_ _ | refine blk_drew ?_ | refine blk_alloc ?_ _)); exact BK312.out) hb); have n1_ := Aside0.mk (below_step (by repeat with_reducible first | exact HB.out | apply below_alloc | apply pw_below_drewN | apply below_drew1 | refine below_set ?_ GE312.out) hb); clear BK312; clear HB; have BK312 := n0_; have HB := n1_; clear n0_ n1_; (try clear hb); (try clear hb2); (try clear hk); (try clear hi))); try go_wp2_with (first | ((with_reducible refine gate_dst (N := 1) rfl ?_); refine box_event ?hg (N := 1) ?hd (cs := #[.int .i64 a0_0, .int .i64 a0_1, .slice A0_2 l0_2.length c0_2, .slice A0_3 l0_3.length c0_3]) (t := 25) ?hr ?_; (case hd => rfl); (case hg => rfl); (case hr => first | (go_simp; done) | (go_simp; rfl)); intro gb312 hg w80 hbox hb; have n0_ := Aside0.mk (below_step (by repeat with_reducible first | exact HB.out | apply below_alloc | apply pw_below_drewN | apply below_drew1) hb); have n1_ := Aside0.mk (hbox); have n2_ := Aside0.mk ((by rw [hg]; exact (below_size (by repeat with_reducible first | exact HB.out | apply below_alloc | apply pw_below_drewN | apply below_drew1)) : w.heap.size ≤ gb312)); have n3_ := Aside0.mk ((by rw [hg]; exact (below_size (by repeat with_reducible first | exact HB.out | apply below_alloc | apply pw_below_drewN | apply below_drew1)) : w.heap.size ≤ gb312)); clear HB; have HB := n0_; have BK312 := n1_; have GW312 := n2_; have GE312 := n3_; clear n0_ n1_ n2_ n3_; clear hb hbox hg) | (go_at_call 11; (with_reducible refine (fettlelaw06_up.calls k  t313 _ A2.out).mono ?_); rintro e w81 ⟨rfl, hb⟩; have n0_ := Aside0.mk (blk_below (g := gb312) (o := .cells #[.int .i64 a0_0, .int .i64 a0_1, .slice A0_2 l0_2.length c0_2, .slice A0_3 l0_3.length c0_3] 25 (0, 0)) (by (with_reducible repeat (first | refine blk_drewN ?_ _ | refine blk_drew ?_ | refine blk_alloc ?_ _)); exact BK312.out) hb); have n1_ := Aside0.mk (below_step (by repeat with_reducible first | exact HB.out | apply below_alloc | apply pw_below_drewN | apply below_drew1 | refine below_set ?_ GE312.out) hb); clear BK312; clear HB; have BK312 := n0_; have HB := n1_; clear n0_ n1_; (try clear hb); (try clear hb2); (try clear hk); (try clear hi); have hcz82_0 : w81.cell? ⟨gb312, 0, none⟩ = some (.int .i64 a0_0) := (blk_cell BK312.out 0).trans rfl; have hcz82_1 : w81.cell? ⟨gb312, 1, none⟩ = some (.int .i64 a0_1) := (blk_cell BK312.out 1).trans rfl; have hcz82_2 : w81.cell? ⟨gb312, 2, none⟩ = some (.slice A0_2 l0_2.length c0_2) := (blk_cell BK312.out 2).trans rfl; have hcz82_3 : w81.cell? ⟨gb312, 3, none⟩ = some (.slice A0_3 l0_3.length c0_3) := (blk_cell BK312.out 3).trans rfl; have hfz82_0 := blk_frozen BK312.out 0; have hfz82_1 := blk_frozen BK312.out 1; have hfz82_2 := blk_frozen BK312.out 2; have hfz82_3 := blk_frozen BK312.out 3) | (go_at_call 12; (with_reducible refine (fettlelaw06_small.calls k a0_0 a0_1 (fun k_ => k_ < w.heap.size) _ _ l0_2 (fun k_ => k_ < w.heap.size) _ _ l0_3 false _ ?side1 ?side2 A3.out).mono ?_); (case side1 => exact Kd.V_mk HC0_2.out (Kd.F_below (Kd.C_F (Kd.heap_int .i64) HR0_2.out) (by repeat with_reducible first | exact HB.out | apply below_alloc | apply pw_below_drewN | apply below_drew1 | refine below_set ?_ GE312.out))); (case side2 => exact Kd.V_mk HC0_3.out (Kd.F_below (Kd.C_F k52_heap HR0_3.out) (by repeat with_reducible first | exact HB.out | apply below_alloc | apply pw_below_drewN | apply below_drew1 | refine below_set ?_ GE312.out))); rintro e w83 ⟨rfl, hb⟩; have n0_ := Aside0.mk (blk_below (g := gb312) (o := .cells #[.int .i64 a0_0, .int .i64 a0_1, .slice A0_2 l0_2.length c0_2, .slice A0_3 l0_3.length c0_3] 25 (0, 0)) (by (with_reducible repeat (first | refine blk_drewN ?_ _ | refine blk_drew ?_ | refine blk_alloc ?_ _)); exact BK312.out) hb); have n1_ := Aside0.mk (below_step (by repeat with_reducible first | exact HB.out | apply below_alloc | apply pw_below_drewN | apply below_drew1 | refine below_set ?_ GE312.out) hb); clear BK312; clear HB; have BK312 := n0_; have HB := n1_; clear n0_ n1_; (try clear hb); (try clear hb2); (try clear hk); (try clear hi))))
  go_ret
  exact ⟨by first | rfl | (simp [errW_none, errW_some] <;> rfl) | (simp [*, errW_none, errW_some] <;> rfl), by repeat (first | (with_reducible first | exact HB.out | apply below_alloc | apply pw_below_drewN | apply below_drew1 | refine below_set ?_ GE312.out) | exact HB.out)⟩

/-- THE ONE PURE STATEMENT of fettlelaw06_DomOrder: yours. -/
def fettlelaw06_DomOrder.Pure : Prop := ∀ (a0_0 : Int) (a0_1 : Int) (l0_2 : List Int) (l0_3 : List (S52)), ∃ k, fettlelaw06_DomOrder.f k a0_0 a0_1 l0_2 l0_3 = some true
theorem fettlelaw06_DomOrder.walk (P : fettlelaw06_DomOrder.Pure) (a0_0 : Int) (a0_1 : Int) (A0_2 : Option Addr) (c0_2 : Nat) (l0_2 : List Int) (A0_3 : Option Addr) (c0_3 : Nat) (l0_3 : List (S52)) (w : World) (hr0_2 : Kd.C (Kd.int .i64) w A0_2 l0_2.length l0_2) (hc0_2 : l0_2.length ≤ c0_2) (hr0_3 : Kd.C k52 w A0_3 l0_3.length l0_3) (hc0_3 : l0_3.length ≤ c0_3) :
    Calls Try.prog 4 #[.agg #[.int .i64 a0_0, .int .i64 a0_1, .slice A0_2 l0_2.length c0_2, .slice A0_3 l0_3.length c0_3]] w fun e w' => e = .returned (.bool true) ∧ Below w.heap.size w w' := by
  obtain ⟨k, h⟩ := P a0_0 a0_1 l0_2 l0_3 
  refine (fettlelaw06_DomOrder.calls k a0_0 a0_1 A0_2 c0_2 l0_2 A0_3 c0_3 l0_3 true w hr0_2 hc0_2 hr0_3 hc0_3 h).mono ?_
  rintro e w' ⟨rfl, hd⟩
  exact ⟨rfl, hd⟩

end Go.Proofs.Ytpionncanaamgaa.PDomOrder
