-- Laid by a program of this session (wip/pp/patch.py over the kit's print).
import Derived.Test.YtpionncanaamgaaPDomNearestx0
import Derived.Test.YtpionncanaamgaaPDomNearestx4
import Derived.Test.YtpionncanaamgaaPDomNearestx5
import Derived.Test.YtpionncanaamgaaPDomNearestx7
import Derived.Test.YtpionncanaamgaaPDomNearestx9
import Derived.Test.YtpionncanaamgaaPDomNearestx11
import Derived.Test.YtpionncanaamgaaPDomNearestx12
namespace Go.Proofs.Ytpionncanaamgaa.PDomNearest
open Go.RowKit Go.Proofs.YtpionncanaamgaaW.PrintWords Go.Proofs.YtpionncanaamgaaW.PrintLast Go.Proofs.YtpionncanaamgaaW.PrintMore Go.Proofs.YtpionncanaamgaaW.PrintWords.Kd
attribute [local go_sem] max2_int min2_int max_two min_two max_three min_three max_four min_four   -- for this text's walks alone
set_option linter.unusedVariables false
set_option linter.unusedSimpArgs false

/-! ### fettlelaw06_DomNearest: function 6 -/
mutual
def fettlelaw06_DomNearest.j0 : Nat → Bool → List (List Bool) → List (List Int) → List Int → List (List Bool) → Bool → Option (Bool)
  | 0, _, _, _, _, _, _ => none
  | k + 1, x3, x6, x7, x8, x9, x46 => if x46 = true then (some false) else (fettlelaw06_DomNearest.l0 k x3 x6 x7 x8 x9 0)
def fettlelaw06_DomNearest.l0 : Nat → Bool → List (List Bool) → List (List Int) → List Int → List (List Bool) → Int → Option (Bool)
  | 0, _, _, _, _, _, _ => none
  | k + 1, x3, x6, x7, x8, x9, x10 => if x10 < (x9.length : Int) then (if 0 ≤ x10 then (if x10 < (x6.length : Int) then (if ((rd_L11 x6 x10).length : Int) = (x9.length : Int) then (fettlelaw06_DomNearest.l1 k x3 x6 x7 x8 x9 x10 ([] : List Int) 0) else (some false)) else (none)) else (none)) else (some x3)
def fettlelaw06_DomNearest.l1 : Nat → Bool → List (List Bool) → List (List Int) → List Int → List (List Bool) → Int → List Int → Int → Option (Bool)
  | 0, _, _, _, _, _, _, _, _ => none
  | k + 1, x3, x6, x7, x8, x9, x10, x11, x12 => if x12 < (x9.length : Int) then (if 0 ≤ x10 then (if x10 < (x6.length : Int) then (if 0 ≤ x12 then (if x12 < ((rd_L11 x6 x10).length : Int) then (if x10 < (x9.length : Int) then (if x12 < ((rd_L11 x9 x10).length : Int) then (if ((rdOf false (rd_L11 x6 x10) x12) != (rdOf false (rd_L11 x9 x10) x12)) = true then (some false) else (if x12 < (x8.length : Int) then (if (rd x8 x12) = x10 then (if x11.length < 17592186044416 then (fettlelaw06_DomNearest.l1 k x3 x6 x7 x8 x9 x10 (x11 ++ [x12]) (wrap64 (x12 + 1))) else (none)) else (fettlelaw06_DomNearest.l1 k x3 x6 x7 x8 x9 x10 x11 (wrap64 (x12 + 1)))) else (none))) else (none)) else (none)) else (none)) else (none)) else (none)) else (none)) else (if 0 ≤ x10 then (if x10 < (x7.length : Int) then ((fettlelaw05_Ints.f k (rd_L1 x7 x10) x11).bind fun t377 => (if t377 = true then (fettlelaw06_DomNearest.l0 k x3 x6 x7 x8 x9 (wrap64 (x10 + 1))) else (some false))) else (none)) else (none))
end
def fettlelaw06_DomNearest.f (k : Nat) (a0_0 : Int) (a0_1 : Int) (l0_2 : List Int) (l0_3 : List (S52)) : Option (Bool) := (fettlelaw06_up.f k).bind fun t357 => ((fettlelaw06_small.f k a0_0 a0_1 l0_2 l0_3).bind fun t358 => (if t358 = true then ((dom_Nearest.f k a0_0 a0_1 l0_2 l0_3).bind fun t359 => ((dom_Dominates.f k a0_0 a0_1 l0_2 l0_3).bind fun t362 => ((dom_Under.f k a0_0 a0_1 l0_2 l0_3).bind fun t365 => ((fettleref06_Nearest.f k a0_0 a0_1 l0_2 l0_3).bind fun t368 => ((fettleref06_Dominates.f k a0_0 a0_1 l0_2 l0_3).bind fun t371 => ((fettlelaw05_Ints.f k t359 t368).bind fun t374 => (if t374 = true then (if (t362.length : Int) = (t371.length : Int) then (fettlelaw06_DomNearest.j0 k t357 t362 t365 t368 t371 ((t365.length : Int) != (t371.length : Int))) else (fettlelaw06_DomNearest.j0 k t357 t362 t365 t368 t371 true)) else (fettlelaw06_DomNearest.j0 k t357 t362 t365 t368 t371 true)))))))) else (some t357)))
theorem fettlelaw06_DomNearest.mono_l : ∀ k, (∀ y0 y1 y2 y3 y4 y5, LeO (fettlelaw06_DomNearest.j0 k y0 y1 y2 y3 y4 y5) (fettlelaw06_DomNearest.j0 (k + 1) y0 y1 y2 y3 y4 y5)) ∧ (∀ y0 y1 y2 y3 y4 y5, LeO (fettlelaw06_DomNearest.l0 k y0 y1 y2 y3 y4 y5) (fettlelaw06_DomNearest.l0 (k + 1) y0 y1 y2 y3 y4 y5)) ∧ (∀ y0 y1 y2 y3 y4 y5 y6 y7, LeO (fettlelaw06_DomNearest.l1 k y0 y1 y2 y3 y4 y5 y6 y7) (fettlelaw06_DomNearest.l1 (k + 1) y0 y1 y2 y3 y4 y5 y6 y7))
  | 0 => ⟨fun _ _ _ _ _ _ r h => by simp [fettlelaw06_DomNearest.j0] at h, fun _ _ _ _ _ _ r h => by simp [fettlelaw06_DomNearest.l0] at h, fun _ _ _ _ _ _ _ _ r h => by simp [fettlelaw06_DomNearest.l1] at h⟩
  | k + 1 => by
    obtain ⟨ih0, ih1, ih2⟩ := fettlelaw06_DomNearest.mono_l k
    refine ⟨?_, ?_, ?_⟩
    · intro y0 y1 y2 y3 y4 y5
      unfold fettlelaw06_DomNearest.j0
      repeat' first
      | (with_reducible exact ih0 _ _ _ _ _ _)
      | (with_reducible exact ih1 _ _ _ _ _ _)
      | (with_reducible exact ih2 _ _ _ _ _ _ _ _)
      | (with_reducible exact dom_Dominates.mono _ _ _ _ _)
      | (with_reducible exact dom_Nearest.mono _ _ _ _ _)
      | (with_reducible exact dom_Under.mono _ _ _ _ _)
      | (with_reducible exact fettlelaw05_Ints.mono _ _ _)
      | (with_reducible exact fettlelaw06_small.mono _ _ _ _ _)
      | (with_reducible exact fettlelaw06_up.mono _)
      | (with_reducible exact fettleref06_Dominates.mono _ _ _ _ _)
      | (with_reducible exact fettleref06_Nearest.mono _ _ _ _ _)
      | (with_reducible exact LeO.refl _)
      | (with_reducible exact LeO.none _)
      | (with_reducible refine LeO.ite ?_ ?_)
      | (with_reducible refine LeO.bind ?_ (fun _ => ?_))
      | exact ih0 _ _ _ _ _ _
      | exact ih1 _ _ _ _ _ _
      | exact ih2 _ _ _ _ _ _ _ _
      | exact dom_Dominates.mono _ _ _ _ _
      | exact dom_Nearest.mono _ _ _ _ _
      | exact dom_Under.mono _ _ _ _ _
      | exact fettlelaw05_Ints.mono _ _ _
      | exact fettlelaw06_small.mono _ _ _ _ _
      | exact fettlelaw06_up.mono _
      | exact fettleref06_Dominates.mono _ _ _ _ _
      | exact fettleref06_Nearest.mono _ _ _ _ _
      | exact LeO.none _
      | refine LeO.ite ?_ ?_
      | refine LeO.bind ?_ (fun _ => ?_)
    · intro y0 y1 y2 y3 y4 y5
      unfold fettlelaw06_DomNearest.l0
      repeat' first
      | (with_reducible exact ih0 _ _ _ _ _ _)
      | (with_reducible exact ih1 _ _ _ _ _ _)
      | (with_reducible exact ih2 _ _ _ _ _ _ _ _)
      | (with_reducible exact dom_Dominates.mono _ _ _ _ _)
      | (with_reducible exact dom_Nearest.mono _ _ _ _ _)
      | (with_reducible exact dom_Under.mono _ _ _ _ _)
      | (with_reducible exact fettlelaw05_Ints.mono _ _ _)
      | (with_reducible exact fettlelaw06_small.mono _ _ _ _ _)
      | (with_reducible exact fettlelaw06_up.mono _)
      | (with_reducible exact fettleref06_Dominates.mono _ _ _ _ _)
      | (with_reducible exact fettleref06_Nearest.mono _ _ _ _ _)
      | (with_reducible exact LeO.refl _)
      | (with_reducible exact LeO.none _)
      | (with_reducible refine LeO.ite ?_ ?_)
      | (with_reducible refine LeO.bind ?_ (fun _ => ?_))
      | exact ih0 _ _ _ _ _ _
      | exact ih1 _ _ _ _ _ _
      | exact ih2 _ _ _ _ _ _ _ _
      | exact dom_Dominates.mono _ _ _ _ _
      | exact dom_Nearest.mono _ _ _ _ _
      | exact dom_Under.mono _ _ _ _ _
      | exact fettlelaw05_Ints.mono _ _ _
      | exact fettlelaw06_small.mono _ _ _ _ _
      | exact fettlelaw06_up.mono _
      | exact fettleref06_Dominates.mono _ _ _ _ _
      | exact fettleref06_Nearest.mono _ _ _ _ _
      | exact LeO.none _
      | refine LeO.ite ?_ ?_
      | refine LeO.bind ?_ (fun _ => ?_)
    · intro y0 y1 y2 y3 y4 y5 y6 y7
      unfold fettlelaw06_DomNearest.l1
      repeat' first
      | (with_reducible exact ih0 _ _ _ _ _ _)
      | (with_reducible exact ih1 _ _ _ _ _ _)
      | (with_reducible exact ih2 _ _ _ _ _ _ _ _)
      | (with_reducible exact dom_Dominates.mono _ _ _ _ _)
      | (with_reducible exact dom_Nearest.mono _ _ _ _ _)
      | (with_reducible exact dom_Under.mono _ _ _ _ _)
      | (with_reducible exact fettlelaw05_Ints.mono _ _ _)
      | (with_reducible exact fettlelaw06_small.mono _ _ _ _ _)
      | (with_reducible exact fettlelaw06_up.mono _)
      | (with_reducible exact fettleref06_Dominates.mono _ _ _ _ _)
      | (with_reducible exact fettleref06_Nearest.mono _ _ _ _ _)
      | (with_reducible exact LeO.refl _)
      | (with_reducible exact LeO.none _)
      | (with_reducible refine LeO.ite ?_ ?_)
      | (with_reducible refine LeO.bind ?_ (fun _ => ?_))
      | exact ih0 _ _ _ _ _ _
      | exact ih1 _ _ _ _ _ _
      | exact ih2 _ _ _ _ _ _ _ _
      | exact dom_Dominates.mono _ _ _ _ _
      | exact dom_Nearest.mono _ _ _ _ _
      | exact dom_Under.mono _ _ _ _ _
      | exact fettlelaw05_Ints.mono _ _ _
      | exact fettlelaw06_small.mono _ _ _ _ _
      | exact fettlelaw06_up.mono _
      | exact fettleref06_Dominates.mono _ _ _ _ _
      | exact fettleref06_Nearest.mono _ _ _ _ _
      | exact LeO.none _
      | refine LeO.ite ?_ ?_
      | refine LeO.bind ?_ (fun _ => ?_)
theorem fettlelaw06_DomNearest.mono : ∀ a0 a1 a2 a3 k, LeO (fettlelaw06_DomNearest.f k a0 a1 a2 a3) (fettlelaw06_DomNearest.f (k + 1) a0 a1 a2 a3) := by
  intro a0 a1 a2 a3 k
  obtain ⟨ih0, ih1, ih2⟩ := fettlelaw06_DomNearest.mono_l k
  unfold fettlelaw06_DomNearest.f
  repeat' first
      | (with_reducible exact ih0 _ _ _ _ _ _)
      | (with_reducible exact ih1 _ _ _ _ _ _)
      | (with_reducible exact ih2 _ _ _ _ _ _ _ _)
      | (with_reducible exact dom_Dominates.mono _ _ _ _ _)
      | (with_reducible exact dom_Nearest.mono _ _ _ _ _)
      | (with_reducible exact dom_Under.mono _ _ _ _ _)
      | (with_reducible exact fettlelaw05_Ints.mono _ _ _)
      | (with_reducible exact fettlelaw06_small.mono _ _ _ _ _)
      | (with_reducible exact fettlelaw06_up.mono _)
      | (with_reducible exact fettleref06_Dominates.mono _ _ _ _ _)
      | (with_reducible exact fettleref06_Nearest.mono _ _ _ _ _)
      | (with_reducible exact LeO.refl _)
      | (with_reducible exact LeO.none _)
      | (with_reducible refine LeO.ite ?_ ?_)
      | (with_reducible refine LeO.bind ?_ (fun _ => ?_))
      | exact ih0 _ _ _ _ _ _
      | exact ih1 _ _ _ _ _ _
      | exact ih2 _ _ _ _ _ _ _ _
      | exact dom_Dominates.mono _ _ _ _ _
      | exact dom_Nearest.mono _ _ _ _ _
      | exact dom_Under.mono _ _ _ _ _
      | exact fettlelaw05_Ints.mono _ _ _
      | exact fettlelaw06_small.mono _ _ _ _ _
      | exact fettlelaw06_up.mono _
      | exact fettleref06_Dominates.mono _ _ _ _ _
      | exact fettleref06_Nearest.mono _ _ _ _ _
      | exact LeO.none _
      | refine LeO.ite ?_ ?_
      | refine LeO.bind ?_ (fun _ => ?_)
set_option maxHeartbeats 8000000 in
set_option maxRecDepth 100000 in
theorem fettlelaw06_DomNearest.calls (k : Nat) (a0_0 : Int) (a0_1 : Int) (A0_2 : Option Addr) (c0_2 : Nat) (l0_2 : List Int) (A0_3 : Option Addr) (c0_3 : Nat) (l0_3 : List (S52)) (r : Bool) (w : World) (hr0_2 : Kd.C (Kd.int .i64) w A0_2 l0_2.length l0_2) (hc0_2 : l0_2.length ≤ c0_2) (hr0_3 : Kd.C k52 w A0_3 l0_3.length l0_3) (hc0_3 : l0_3.length ≤ c0_3) (h : fettlelaw06_DomNearest.f k a0_0 a0_1 l0_2 l0_3 = some r) :
    Calls Try.prog 6 #[.agg #[.int .i64 a0_0, .int .i64 a0_1, .slice A0_2 l0_2.length c0_2, .slice A0_3 l0_3.length c0_3]] w fun e w' => e = .returned (.bool r) ∧ Below w.heap.size w w' := by
  have hu25 := Try.underlying25
  have HR0_2 := Aside0.mk hr0_2
  have HC0_2 := Aside0.mk hc0_2
  clear hr0_2 hc0_2
  have HR0_3 := Aside0.mk hr0_3
  have HC0_3 := Aside0.mk hc0_3
  clear hr0_3 hc0_3
  have HB := Aside0.mk (Below.refl w.heap.size w)
  have H : ((fettlelaw06_up.f k).bind fun t357 => ((fettlelaw06_small.f k a0_0 a0_1 l0_2 l0_3).bind fun t358 => (if t358 = true then ((dom_Nearest.f k a0_0 a0_1 l0_2 l0_3).bind fun t359 => ((dom_Dominates.f k a0_0 a0_1 l0_2 l0_3).bind fun t362 => ((dom_Under.f k a0_0 a0_1 l0_2 l0_3).bind fun t365 => ((fettleref06_Nearest.f k a0_0 a0_1 l0_2 l0_3).bind fun t368 => ((fettleref06_Dominates.f k a0_0 a0_1 l0_2 l0_3).bind fun t371 => ((fettlelaw05_Ints.f k t359 t368).bind fun t374 => (if t374 = true then (if (t362.length : Int) = (t371.length : Int) then (fettlelaw06_DomNearest.j0 k t357 t362 t365 t368 t371 ((t365.length : Int) != (t371.length : Int))) else (fettlelaw06_DomNearest.j0 k t357 t362 t365 t368 t371 true)) else (fettlelaw06_DomNearest.j0 k t357 t362 t365 t368 t371 true)))))))) else (some t357)))) = some r := h
  clear h
  replace H := Option.bind_eq_some_iff.mp H
  obtain ⟨t357, A20, H⟩ := H
  replace H : ((fettlelaw06_small.f k a0_0 a0_1 l0_2 l0_3).bind fun t358 => (if t358 = true then ((dom_Nearest.f k a0_0 a0_1 l0_2 l0_3).bind fun t359 => ((dom_Dominates.f k a0_0 a0_1 l0_2 l0_3).bind fun t362 => ((dom_Under.f k a0_0 a0_1 l0_2 l0_3).bind fun t365 => ((fettleref06_Nearest.f k a0_0 a0_1 l0_2 l0_3).bind fun t368 => ((fettleref06_Dominates.f k a0_0 a0_1 l0_2 l0_3).bind fun t371 => ((fettlelaw05_Ints.f k t359 t368).bind fun t374 => (if t374 = true then (if (t362.length : Int) = (t371.length : Int) then (fettlelaw06_DomNearest.j0 k t357 t362 t365 t368 t371 ((t365.length : Int) != (t371.length : Int))) else (fettlelaw06_DomNearest.j0 k t357 t362 t365 t368 t371 true)) else (fettlelaw06_DomNearest.j0 k t357 t362 t365 t368 t371 true)))))))) else (some t357))) = some r := H
  have A2 := Aside0.mk A20
  clear A20
  replace H := Option.bind_eq_some_iff.mp H
  obtain ⟨t358, A30, H⟩ := H
  replace H : (if t358 = true then ((dom_Nearest.f k a0_0 a0_1 l0_2 l0_3).bind fun t359 => ((dom_Dominates.f k a0_0 a0_1 l0_2 l0_3).bind fun t362 => ((dom_Under.f k a0_0 a0_1 l0_2 l0_3).bind fun t365 => ((fettleref06_Nearest.f k a0_0 a0_1 l0_2 l0_3).bind fun t368 => ((fettleref06_Dominates.f k a0_0 a0_1 l0_2 l0_3).bind fun t371 => ((fettlelaw05_Ints.f k t359 t368).bind fun t374 => (if t374 = true then (if (t362.length : Int) = (t371.length : Int) then (fettlelaw06_DomNearest.j0 k t357 t362 t365 t368 t371 ((t365.length : Int) != (t371.length : Int))) else (fettlelaw06_DomNearest.j0 k t357 t362 t365 t368 t371 true)) else (fettlelaw06_DomNearest.j0 k t357 t362 t365 t368 t371 true)))))))) else (some t357)) = some r := H
  have A3 := Aside0.mk A30
  clear A30
  by_cases c4 : t358 = true
  · subst c4
    have H1 : ((dom_Nearest.f k a0_0 a0_1 l0_2 l0_3).bind fun t359 => ((dom_Dominates.f k a0_0 a0_1 l0_2 l0_3).bind fun t362 => ((dom_Under.f k a0_0 a0_1 l0_2 l0_3).bind fun t365 => ((fettleref06_Nearest.f k a0_0 a0_1 l0_2 l0_3).bind fun t368 => ((fettleref06_Dominates.f k a0_0 a0_1 l0_2 l0_3).bind fun t371 => ((fettlelaw05_Ints.f k t359 t368).bind fun t374 => (if t374 = true then (if (t362.length : Int) = (t371.length : Int) then (fettlelaw06_DomNearest.j0 k t357 t362 t365 t368 t371 ((t365.length : Int) != (t371.length : Int))) else (fettlelaw06_DomNearest.j0 k t357 t362 t365 t368 t371 true)) else (fettlelaw06_DomNearest.j0 k t357 t362 t365 t368 t371 true)))))))) = some r := by rw [if_pos rfl] at H; exact H
    clear H
    have H := H1
    clear H1
    replace H := Option.bind_eq_some_iff.mp H
    obtain ⟨t359, A50, H⟩ := H
    replace H : ((dom_Dominates.f k a0_0 a0_1 l0_2 l0_3).bind fun t362 => ((dom_Under.f k a0_0 a0_1 l0_2 l0_3).bind fun t365 => ((fettleref06_Nearest.f k a0_0 a0_1 l0_2 l0_3).bind fun t368 => ((fettleref06_Dominates.f k a0_0 a0_1 l0_2 l0_3).bind fun t371 => ((fettlelaw05_Ints.f k t359 t368).bind fun t374 => (if t374 = true then (if (t362.length : Int) = (t371.length : Int) then (fettlelaw06_DomNearest.j0 k t357 t362 t365 t368 t371 ((t365.length : Int) != (t371.length : Int))) else (fettlelaw06_DomNearest.j0 k t357 t362 t365 t368 t371 true)) else (fettlelaw06_DomNearest.j0 k t357 t362 t365 t368 t371 true))))))) = some r := H
    have A5 := Aside0.mk A50
    clear A50
    replace H := Option.bind_eq_some_iff.mp H
    obtain ⟨t362, A60, H⟩ := H
    replace H : ((dom_Under.f k a0_0 a0_1 l0_2 l0_3).bind fun t365 => ((fettleref06_Nearest.f k a0_0 a0_1 l0_2 l0_3).bind fun t368 => ((fettleref06_Dominates.f k a0_0 a0_1 l0_2 l0_3).bind fun t371 => ((fettlelaw05_Ints.f k t359 t368).bind fun t374 => (if t374 = true then (if (t362.length : Int) = (t371.length : Int) then (fettlelaw06_DomNearest.j0 k t357 t362 t365 t368 t371 ((t365.length : Int) != (t371.length : Int))) else (fettlelaw06_DomNearest.j0 k t357 t362 t365 t368 t371 true)) else (fettlelaw06_DomNearest.j0 k t357 t362 t365 t368 t371 true)))))) = some r := H
    have A6 := Aside0.mk A60
    clear A60
    replace H := Option.bind_eq_some_iff.mp H
    obtain ⟨t365, A70, H⟩ := H
    replace H : ((fettleref06_Nearest.f k a0_0 a0_1 l0_2 l0_3).bind fun t368 => ((fettleref06_Dominates.f k a0_0 a0_1 l0_2 l0_3).bind fun t371 => ((fettlelaw05_Ints.f k t359 t368).bind fun t374 => (if t374 = true then (if (t362.length : Int) = (t371.length : Int) then (fettlelaw06_DomNearest.j0 k t357 t362 t365 t368 t371 ((t365.length : Int) != (t371.length : Int))) else (fettlelaw06_DomNearest.j0 k t357 t362 t365 t368 t371 true)) else (fettlelaw06_DomNearest.j0 k t357 t362 t365 t368 t371 true))))) = some r := H
    have A7 := Aside0.mk A70
    clear A70
    replace H := Option.bind_eq_some_iff.mp H
    obtain ⟨t368, A80, H⟩ := H
    replace H : ((fettleref06_Dominates.f k a0_0 a0_1 l0_2 l0_3).bind fun t371 => ((fettlelaw05_Ints.f k t359 t368).bind fun t374 => (if t374 = true then (if (t362.length : Int) = (t371.length : Int) then (fettlelaw06_DomNearest.j0 k t357 t362 t365 t368 t371 ((t365.length : Int) != (t371.length : Int))) else (fettlelaw06_DomNearest.j0 k t357 t362 t365 t368 t371 true)) else (fettlelaw06_DomNearest.j0 k t357 t362 t365 t368 t371 true)))) = some r := H
    have A8 := Aside0.mk A80
    clear A80
    replace H := Option.bind_eq_some_iff.mp H
    obtain ⟨t371, A90, H⟩ := H
    replace H : ((fettlelaw05_Ints.f k t359 t368).bind fun t374 => (if t374 = true then (if (t362.length : Int) = (t371.length : Int) then (fettlelaw06_DomNearest.j0 k t357 t362 t365 t368 t371 ((t365.length : Int) != (t371.length : Int))) else (fettlelaw06_DomNearest.j0 k t357 t362 t365 t368 t371 true)) else (fettlelaw06_DomNearest.j0 k t357 t362 t365 t368 t371 true))) = some r := H
    have A9 := Aside0.mk A90
    clear A90
    have HC10 := Aside0.mk H
    clear H
    go_enter Try.func6, Try.ntmps6
    go_upto_region 10 with (first | ((with_reducible refine gate_dst (N := 1) rfl ?_); (try (refine gate_guard (by rfl) ?_; dsimp only)); refine box_event ?hg (N := 1) ?hd (cs := #[.int .i64 a0_0, .int .i64 a0_1, .slice A0_2 l0_2.length c0_2, .slice A0_3 l0_3.length c0_3]) (t := 25) ?hr ?_; (case hd => rfl); (case hg => rfl); (case hr => first | (go_simp; done) | (go_simp; rfl)); intro gb356 hg w11 hbox hb; have n0_ := Aside0.mk (below_step (by repeat with_reducible first | exact HB.out | apply below_alloc | apply pw_below_drewN | apply below_drew1) hb); have n1_ := Aside0.mk (hbox); have n2_ := Aside0.mk ((by rw [hg]; exact (below_size (by repeat with_reducible first | exact HB.out | apply below_alloc | apply pw_below_drewN | apply below_drew1)) : w.heap.size ≤ gb356)); have n3_ := Aside0.mk ((by rw [hg]; exact (below_size (by repeat with_reducible first | exact HB.out | apply below_alloc | apply pw_below_drewN | apply below_drew1)) : w.heap.size ≤ gb356)); clear HB; have HB := n0_; have BK356 := n1_; have GW356 := n2_; have GE356 := n3_; clear n0_ n1_ n2_ n3_; clear hb hbox hg) | (go_at_call 11; (with_reducible refine (fettlelaw06_up.calls k  t357 _ A2.out).mono ?_); rintro e w12 ⟨rfl, hb⟩; have n0_ := Aside0.mk (blk_below (g := gb356) (o := .cells #[.int .i64 a0_0, .int .i64 a0_1, .slice A0_2 l0_2.length c0_2, .slice A0_3 l0_3.length c0_3] 25 (0, 0)) (by (with_reducible repeat (first | refine blk_drewN ?_ _ | refine blk_drew ?_ | refine blk_alloc ?_ _)); exact BK356.out) hb); have n1_ := Aside0.mk (below_step (by repeat with_reducible first | exact HB.out | apply below_alloc | apply pw_below_drewN | apply below_drew1 | refine below_set ?_ GE356.out) hb); clear BK356; clear HB; have BK356 := n0_; have HB := n1_; clear n0_ n1_; (try clear hb); (try clear hb2); (try clear hk); (try clear hi); have hcz13_0 : w12.cell? ⟨gb356, 0, none⟩ = some (.int .i64 a0_0) := (blk_cell BK356.out 0).trans rfl; have hcz13_1 : w12.cell? ⟨gb356, 1, none⟩ = some (.int .i64 a0_1) := (blk_cell BK356.out 1).trans rfl; have hcz13_2 : w12.cell? ⟨gb356, 2, none⟩ = some (.slice A0_2 l0_2.length c0_2) := (blk_cell BK356.out 2).trans rfl; have hcz13_3 : w12.cell? ⟨gb356, 3, none⟩ = some (.slice A0_3 l0_3.length c0_3) := (blk_cell BK356.out 3).trans rfl; have hfz13_0 := blk_frozen BK356.out 0; have hfz13_1 := blk_frozen BK356.out 1; have hfz13_2 := blk_frozen BK356.out 2; have hfz13_3 := blk_frozen BK356.out 3) | (go_at_call 12; (with_reducible refine (fettlelaw06_small.calls k a0_0 a0_1 (fun k_ => k_ < w.heap.size) _ _ l0_2 (fun k_ => k_ < w.heap.size) _ _ l0_3 true _ ?side1 ?side2 A3.out).mono ?_); (case side1 => exact Kd.V_mk HC0_2.out (Kd.F_below (Kd.C_F (Kd.heap_int .i64) HR0_2.out) (by repeat with_reducible first | exact HB.out | apply below_alloc | apply pw_below_drewN | apply below_drew1 | refine below_set ?_ GE356.out))); (case side2 => exact Kd.V_mk HC0_3.out (Kd.F_below (Kd.C_F k52_heap HR0_3.out) (by repeat with_reducible first | exact HB.out | apply below_alloc | apply pw_below_drewN | apply below_drew1 | refine below_set ?_ GE356.out))); rintro e w14 ⟨rfl, hb⟩; have n0_ := Aside0.mk (blk_below (g := gb356) (o := .cells #[.int .i64 a0_0, .int .i64 a0_1, .slice A0_2 l0_2.length c0_2, .slice A0_3 l0_3.length c0_3] 25 (0, 0)) (by (with_reducible repeat (first | refine blk_drewN ?_ _ | refine blk_drew ?_ | refine blk_alloc ?_ _)); exact BK356.out) hb); have n1_ := Aside0.mk (below_step (by repeat with_reducible first | exact HB.out | apply below_alloc | apply pw_below_drewN | apply below_drew1 | refine below_set ?_ GE356.out) hb); clear BK356; clear HB; have BK356 := n0_; have HB := n1_; clear n0_ n1_; (try clear hb); (try clear hb2); (try clear hk); (try clear hi); have hcz15_0 : w14.cell? ⟨gb356, 0, none⟩ = some (.int .i64 a0_0) := (blk_cell BK356.out 0).trans rfl; have hcz15_1 : w14.cell? ⟨gb356, 1, none⟩ = some (.int .i64 a0_1) := (blk_cell BK356.out 1).trans rfl; have hcz15_2 : w14.cell? ⟨gb356, 2, none⟩ = some (.slice A0_2 l0_2.length c0_2) := (blk_cell BK356.out 2).trans rfl; have hcz15_3 : w14.cell? ⟨gb356, 3, none⟩ = some (.slice A0_3 l0_3.length c0_3) := (blk_cell BK356.out 3).trans rfl; have hfz15_0 := blk_frozen BK356.out 0; have hfz15_1 := blk_frozen BK356.out 1; have hfz15_2 := blk_frozen BK356.out 2; have hfz15_3 := blk_frozen BK356.out 3) | (go_at_call 20; (with_reducible refine (dom_Nearest.calls k a0_0 a0_1 _ _ l0_2 _ _ l0_3 t359 _ ?side1 ?side2 ?side3 ?side4 A5.out).mono ?_); (case side1 => repeat (first | exact (C_below HR0_2.out HB.out) | (with_reducible refine C_alloc ?_ _) | (with_reducible refine C_drewN ?_ _) | (with_reducible refine C_drew ?_))); (case side2 => exact HC0_2.out); (case side3 => repeat (first | exact (C_below HR0_3.out HB.out) | (with_reducible refine C_alloc ?_ _) | (with_reducible refine C_drewN ?_ _) | (with_reducible refine C_drew ?_))); (case side4 => exact HC0_3.out); rintro e w16 ⟨v360, rfl, ho0, hb⟩; have n0_ := Aside0.mk (Kd.R_lower ho0 (below_size (by repeat with_reducible first | exact HB.out | apply below_alloc | apply pw_below_drewN | apply below_drew1 | refine below_set ?_ GE356.out))); have n1_ := Aside0.mk (blk_below (g := gb356) (o := .cells #[.int .i64 a0_0, .int .i64 a0_1, .slice A0_2 l0_2.length c0_2, .slice A0_3 l0_3.length c0_3] 25 (0, 0)) (by (with_reducible repeat (first | refine blk_drewN ?_ _ | refine blk_drew ?_ | refine blk_alloc ?_ _)); exact BK356.out) hb); have n2_ := Aside0.mk (below_step (by repeat with_reducible first | exact HB.out | apply below_alloc | apply pw_below_drewN | apply below_drew1 | refine below_set ?_ GE356.out) hb); clear BK356; clear HB; have HO361 := n0_; have BK356 := n1_; have HB := n2_; clear n0_ n1_ n2_; (try clear hb); (try clear hb2); (try clear hk); (try clear hi); (try clear ho0); have hcz17_0 : w16.cell? ⟨gb356, 0, none⟩ = some (.int .i64 a0_0) := (blk_cell BK356.out 0).trans rfl; have hcz17_1 : w16.cell? ⟨gb356, 1, none⟩ = some (.int .i64 a0_1) := (blk_cell BK356.out 1).trans rfl; have hcz17_2 : w16.cell? ⟨gb356, 2, none⟩ = some (.slice A0_2 l0_2.length c0_2) := (blk_cell BK356.out 2).trans rfl; have hcz17_3 : w16.cell? ⟨gb356, 3, none⟩ = some (.slice A0_3 l0_3.length c0_3) := (blk_cell BK356.out 3).trans rfl; have hfz17_0 := blk_frozen BK356.out 0; have hfz17_1 := blk_frozen BK356.out 1; have hfz17_2 := blk_frozen BK356.out 2; have hfz17_3 := blk_frozen BK356.out 3) | (go_at_call 17; (with_reducible refine (dom_Dominates.calls k a0_0 a0_1 _ _ l0_2 _ _ l0_3 t362 _ ?side1 ?side2 ?side3 ?side4 A6.out).mono ?_); (case side1 => repeat (first | exact (C_below HR0_2.out HB.out) | (with_reducible refine C_alloc ?_ _) | (with_reducible refine C_drewN ?_ _) | (with_reducible refine C_drew ?_))); (case side2 => exact HC0_2.out); (case side3 => repeat (first | exact (C_below HR0_3.out HB.out) | (with_reducible refine C_alloc ?_ _) | (with_reducible refine C_drewN ?_ _) | (with_reducible refine C_drew ?_))); (case side4 => exact HC0_3.out); rintro e w18 ⟨v363, rfl, ho0, hb⟩; have n0_ := Aside0.mk (Kd.R_below (by (with_reducible repeat (first | apply R_alloc | apply R_drewN | apply R_drew)); exact HO361.out) hb); have n1_ := Aside0.mk (Kd.S_lower ho0 (below_size (by repeat with_reducible first | exact HB.out | apply below_alloc | apply pw_below_drewN | apply below_drew1 | refine below_set ?_ GE356.out))); have n2_ := Aside0.mk (blk_below (g := gb356) (o := .cells #[.int .i64 a0_0, .int .i64 a0_1, .slice A0_2 l0_2.length c0_2, .slice A0_3 l0_3.length c0_3] 25 (0, 0)) (by (with_reducible repeat (first | refine blk_drewN ?_ _ | refine blk_drew ?_ | refine blk_alloc ?_ _)); exact BK356.out) hb); have n3_ := Aside0.mk (below_step (by repeat with_reducible first | exact HB.out | apply below_alloc | apply pw_below_drewN | apply below_drew1 | refine below_set ?_ GE356.out) hb); clear HO361; clear BK356; clear HB; have HO361 := n0_; have HO364 := n1_; have BK356 := n2_; have HB := n3_; clear n0_ n1_ n2_ n3_; (try clear hb); (try clear hb2); (try clear hk); (try clear hi); (try clear ho0); have hcz19_0 : w18.cell? ⟨gb356, 0, none⟩ = some (.int .i64 a0_0) := (blk_cell BK356.out 0).trans rfl; have hcz19_1 : w18.cell? ⟨gb356, 1, none⟩ = some (.int .i64 a0_1) := (blk_cell BK356.out 1).trans rfl; have hcz19_2 : w18.cell? ⟨gb356, 2, none⟩ = some (.slice A0_2 l0_2.length c0_2) := (blk_cell BK356.out 2).trans rfl; have hcz19_3 : w18.cell? ⟨gb356, 3, none⟩ = some (.slice A0_3 l0_3.length c0_3) := (blk_cell BK356.out 3).trans rfl; have hfz19_0 := blk_frozen BK356.out 0; have hfz19_1 := blk_frozen BK356.out 1; have hfz19_2 := blk_frozen BK356.out 2; have hfz19_3 := blk_frozen BK356.out 3) | (go_at_call 21; (with_reducible refine (dom_Under.calls k a0_0 a0_1 _ _ l0_2 _ _ l0_3 t365 _ ?side1 ?side2 ?side3 ?side4 A7.out).mono ?_); (case side1 => repeat (first | exact (C_below HR0_2.out HB.out) | (with_reducible refine C_alloc ?_ _) | (with_reducible refine C_drewN ?_ _) | (with_reducible refine C_drew ?_))); (case side2 => exact HC0_2.out); (case side3 => repeat (first | exact (C_below HR0_3.out HB.out) | (with_reducible refine C_alloc ?_ _) | (with_reducible refine C_drewN ?_ _) | (with_reducible refine C_drew ?_))); (case side4 => exact HC0_3.out); rintro e w20 ⟨v366, rfl, ho0, hb⟩; have n0_ := Aside0.mk (Kd.R_below (by (with_reducible repeat (first | apply R_alloc | apply R_drewN | apply R_drew)); exact HO361.out) hb); have n1_ := Aside0.mk (Kd.S_below (by (with_reducible repeat (first | apply S_alloc | apply S_drewN | apply S_drew)); exact HO364.out) hb); have n2_ := Aside0.mk (Kd.S_lower (Kd.S_new' ho0 (R_lt (by (with_reducible repeat (first | apply R_alloc | apply R_drewN | apply R_drew)); exact HO361.out))) (below_size (by repeat with_reducible first | exact HB.out | apply below_alloc | apply pw_below_drewN | apply below_drew1 | refine below_set ?_ GE356.out))); have n3_ := Aside0.mk (blk_below (g := gb356) (o := .cells #[.int .i64 a0_0, .int .i64 a0_1, .slice A0_2 l0_2.length c0_2, .slice A0_3 l0_3.length c0_3] 25 (0, 0)) (by (with_reducible repeat (first | refine blk_drewN ?_ _ | refine blk_drew ?_ | refine blk_alloc ?_ _)); exact BK356.out) hb); have n4_ := Aside0.mk (below_step (by repeat with_reducible first | exact HB.out | apply below_alloc | apply pw_below_drewN | apply below_drew1 | refine below_set ?_ GE356.out) hb); clear HO361; clear HO364; clear BK356; clear HB; have HO361 := n0_; have HO364 := n1_; have HO367 := n2_; have BK356 := n3_; have HB := n4_; clear n0_ n1_ n2_ n3_ n4_; (try clear hb); (try clear hb2); (try clear hk); (try clear hi); (try clear ho0); have hcz21_0 : w20.cell? ⟨gb356, 0, none⟩ = some (.int .i64 a0_0) := (blk_cell BK356.out 0).trans rfl; have hcz21_1 : w20.cell? ⟨gb356, 1, none⟩ = some (.int .i64 a0_1) := (blk_cell BK356.out 1).trans rfl; have hcz21_2 : w20.cell? ⟨gb356, 2, none⟩ = some (.slice A0_2 l0_2.length c0_2) := (blk_cell BK356.out 2).trans rfl; have hcz21_3 : w20.cell? ⟨gb356, 3, none⟩ = some (.slice A0_3 l0_3.length c0_3) := (blk_cell BK356.out 3).trans rfl; have hfz21_0 := blk_frozen BK356.out 0; have hfz21_1 := blk_frozen BK356.out 1; have hfz21_2 := blk_frozen BK356.out 2; have hfz21_3 := blk_frozen BK356.out 3) | (go_at_call 22; (with_reducible refine (fettleref06_Nearest.calls k a0_0 a0_1 _ _ l0_2 _ _ l0_3 t368 _ ?side1 ?side2 ?side3 ?side4 A8.out).mono ?_); (case side1 => repeat (first | exact (C_below HR0_2.out HB.out) | (with_reducible refine C_alloc ?_ _) | (with_reducible refine C_drewN ?_ _) | (with_reducible refine C_drew ?_))); (case side2 => exact HC0_2.out); (case side3 => repeat (first | exact (C_below HR0_3.out HB.out) | (with_reducible refine C_alloc ?_ _) | (with_reducible refine C_drewN ?_ _) | (with_reducible refine C_drew ?_))); (case side4 => exact HC0_3.out); rintro e w22 ⟨v369, rfl, ho0, hb⟩; have n0_ := Aside0.mk (R_elder' (by (with_reducible repeat (first | apply R_alloc | apply R_drewN | apply R_drew)); exact HO361.out) (R_base ho0) hb); have n1_ := Aside0.mk (Kd.S_below (by (with_reducible repeat (first | apply S_alloc | apply S_drewN | apply S_drew)); exact HO364.out) hb); have n2_ := Aside0.mk (Kd.S_elder' (by (with_reducible repeat (first | apply S_alloc | apply S_drewN | apply S_drew)); exact HO367.out) (R_base ho0) hb); have n3_ := Aside0.mk (Kd.R_lower (R_new' ho0 (R_lt (by (with_reducible repeat (first | apply R_alloc | apply R_drewN | apply R_drew)); exact HO361.out))) (below_size (by repeat with_reducible first | exact HB.out | apply below_alloc | apply pw_below_drewN | apply below_drew1 | refine below_set ?_ GE356.out))); have n4_ := Aside0.mk (blk_below (g := gb356) (o := .cells #[.int .i64 a0_0, .int .i64 a0_1, .slice A0_2 l0_2.length c0_2, .slice A0_3 l0_3.length c0_3] 25 (0, 0)) (by (with_reducible repeat (first | refine blk_drewN ?_ _ | refine blk_drew ?_ | refine blk_alloc ?_ _)); exact BK356.out) hb); have n5_ := Aside0.mk (below_step (by repeat with_reducible first | exact HB.out | apply below_alloc | apply pw_below_drewN | apply below_drew1 | refine below_set ?_ GE356.out) hb); clear HO361; clear HO364; clear HO367; clear BK356; clear HB; have HO361 := n0_; have HO364 := n1_; have HO367 := n2_; have HO370 := n3_; have BK356 := n4_; have HB := n5_; clear n0_ n1_ n2_ n3_ n4_ n5_; (try clear hb); (try clear hb2); (try clear hk); (try clear hi); (try clear ho0); have hcz23_0 : w22.cell? ⟨gb356, 0, none⟩ = some (.int .i64 a0_0) := (blk_cell BK356.out 0).trans rfl; have hcz23_1 : w22.cell? ⟨gb356, 1, none⟩ = some (.int .i64 a0_1) := (blk_cell BK356.out 1).trans rfl; have hcz23_2 : w22.cell? ⟨gb356, 2, none⟩ = some (.slice A0_2 l0_2.length c0_2) := (blk_cell BK356.out 2).trans rfl; have hcz23_3 : w22.cell? ⟨gb356, 3, none⟩ = some (.slice A0_3 l0_3.length c0_3) := (blk_cell BK356.out 3).trans rfl; have hfz23_0 := blk_frozen BK356.out 0; have hfz23_1 := blk_frozen BK356.out 1; have hfz23_2 := blk_frozen BK356.out 2; have hfz23_3 := blk_frozen BK356.out 3) | (go_at_call 14; (with_reducible refine (fettleref06_Dominates.calls k a0_0 a0_1 _ _ l0_2 _ _ l0_3 t371 _ ?side1 ?side2 ?side3 ?side4 A9.out).mono ?_); (case side1 => repeat (first | exact (C_below HR0_2.out HB.out) | (with_reducible refine C_alloc ?_ _) | (with_reducible refine C_drewN ?_ _) | (with_reducible refine C_drew ?_))); (case side2 => exact HC0_2.out); (case side3 => repeat (first | exact (C_below HR0_3.out HB.out) | (with_reducible refine C_alloc ?_ _) | (with_reducible refine C_drewN ?_ _) | (with_reducible refine C_drew ?_))); (case side4 => exact HC0_3.out); rintro e w24 ⟨v372, rfl, ho0, hb⟩; have n0_ := Aside0.mk (Kd.R_below (by (with_reducible repeat (first | apply R_alloc | apply R_drewN | apply R_drew)); exact HO361.out) hb); have n1_ := Aside0.mk (Kd.S_elder' (by (with_reducible repeat (first | apply S_alloc | apply S_drewN | apply S_drew)); exact HO364.out) (Kd.S_base ho0) hb); have n2_ := Aside0.mk (Kd.S_below (by (with_reducible repeat (first | apply S_alloc | apply S_drewN | apply S_drew)); exact HO367.out) hb); have n3_ := Aside0.mk (Kd.R_below (by (with_reducible repeat (first | apply R_alloc | apply R_drewN | apply R_drew)); exact HO370.out) hb); have n4_ := Aside0.mk (Kd.S_lower (Kd.S_new' ho0 (Kd.S_lt (by (with_reducible repeat (first | apply S_alloc | apply S_drewN | apply S_drew)); exact HO364.out))) (below_size (by repeat with_reducible first | exact HB.out | apply below_alloc | apply pw_below_drewN | apply below_drew1 | refine below_set ?_ GE356.out))); have n5_ := Aside0.mk (blk_below (g := gb356) (o := .cells #[.int .i64 a0_0, .int .i64 a0_1, .slice A0_2 l0_2.length c0_2, .slice A0_3 l0_3.length c0_3] 25 (0, 0)) (by (with_reducible repeat (first | refine blk_drewN ?_ _ | refine blk_drew ?_ | refine blk_alloc ?_ _)); exact BK356.out) hb); have n6_ := Aside0.mk (below_step (by repeat with_reducible first | exact HB.out | apply below_alloc | apply pw_below_drewN | apply below_drew1 | refine below_set ?_ GE356.out) hb); clear HO361; clear HO364; clear HO367; clear HO370; clear BK356; clear HB; have HO361 := n0_; have HO364 := n1_; have HO367 := n2_; have HO370 := n3_; have HO373 := n4_; have BK356 := n5_; have HB := n6_; clear n0_ n1_ n2_ n3_ n4_ n5_ n6_; (try clear hb); (try clear hb2); (try clear hk); (try clear hi); (try clear ho0)))
    repeat (go_quiet (first | ((with_reducible refine gate_dst (N := 1) rfl ?_); (try (refine gate_guard (by rfl) ?_; dsimp only)); refine box_event ?hg (N := 1) ?hd (cs := #[.int .i64 a0_0, .int .i64 a0_1, .slice A0_2 l0_2.length c0_2, .slice A0_3 l0_3.length c0_3]) (t := 25) ?hr ?_; (case hd => rfl); (case hg => rfl); (case hr => first | (go_simp; done) | (go_simp; rfl)); intro gb356 hg w11 hbox hb; have n0_ := Aside0.mk (below_step (by repeat with_reducible first | exact HB.out | apply below_alloc | apply pw_below_drewN | apply below_drew1) hb); have n1_ := Aside0.mk (hbox); have n2_ := Aside0.mk ((by rw [hg]; exact (below_size (by repeat with_reducible first | exact HB.out | apply below_alloc | apply pw_below_drewN | apply below_drew1)) : w.heap.size ≤ gb356)); have n3_ := Aside0.mk ((by rw [hg]; exact (below_size (by repeat with_reducible first | exact HB.out | apply below_alloc | apply pw_below_drewN | apply below_drew1)) : w.heap.size ≤ gb356)); clear HB; have HB := n0_; have BK356 := n1_; have GW356 := n2_; have GE356 := n3_; clear n0_ n1_ n2_ n3_; clear hb hbox hg) | (go_at_call 11; (with_reducible refine (fettlelaw06_up.calls k  t357 _ A2.out).mono ?_); rintro e w12 ⟨rfl, hb⟩; have n0_ := Aside0.mk (blk_below (g := gb356) (o := .cells #[.int .i64 a0_0, .int .i64 a0_1, .slice A0_2 l0_2.length c0_2, .slice A0_3 l0_3.length c0_3] 25 (0, 0)) (by (with_reducible repeat (first | refine blk_drewN ?_ _ | refine blk_drew ?_ | refine blk_alloc ?_ _)); exact BK356.out) hb); have n1_ := Aside0.mk (below_step (by repeat with_reducible first | exact HB.out | apply below_alloc | apply pw_below_drewN | apply below_drew1 | refine below_set ?_ GE356.out) hb); clear BK356; clear HB; have BK356 := n0_; have HB := n1_; clear n0_ n1_; (try clear hb); (try clear hb2); (try clear hk); (try clear hi); have hcz13_0 : w12.cell? ⟨gb356, 0, none⟩ = some (.int .i64 a0_0) := (blk_cell BK356.out 0).trans rfl; have hcz13_1 : w12.cell? ⟨gb356, 1, none⟩ = some (.int .i64 a0_1) := (blk_cell BK356.out 1).trans rfl; have hcz13_2 : w12.cell? ⟨gb356, 2, none⟩ = some (.slice A0_2 l0_2.length c0_2) := (blk_cell BK356.out 2).trans rfl; have hcz13_3 : w12.cell? ⟨gb356, 3, none⟩ = some (.slice A0_3 l0_3.length c0_3) := (blk_cell BK356.out 3).trans rfl; have hfz13_0 := blk_frozen BK356.out 0; have hfz13_1 := blk_frozen BK356.out 1; have hfz13_2 := blk_frozen BK356.out 2; have hfz13_3 := blk_frozen BK356.out 3) | (go_at_call 12; (with_reducible refine (fettlelaw06_small.calls k a0_0 a0_1 (fun k_ => k_ < w.heap.size) _ _ l0_2 (fun k_ => k_ < w.heap.size) _ _ l0_3 true _ ?side1 ?side2 A3.out).mono ?_); (case side1 => exact Kd.V_mk HC0_2.out (Kd.F_below (Kd.C_F (Kd.heap_int .i64) HR0_2.out) (by repeat with_reducible first | exact HB.out | apply below_alloc | apply pw_below_drewN | apply below_drew1 | refine below_set ?_ GE356.out))); (case side2 => exact Kd.V_mk HC0_3.out (Kd.F_below (Kd.C_F k52_heap HR0_3.out) (by repeat with_reducible first | exact HB.out | apply below_alloc | apply pw_below_drewN | apply below_drew1 | refine below_set ?_ GE356.out))); rintro e w14 ⟨rfl, hb⟩; have n0_ := Aside0.mk (blk_below (g := gb356) (o := .cells #[.int .i64 a0_0, .int .i64 a0_1, .slice A0_2 l0_2.length c0_2, .slice A0_3 l0_3.length c0_3] 25 (0, 0)) (by (with_reducible repeat (first | refine blk_drewN ?_ _ | refine blk_drew ?_ | refine blk_alloc ?_ _)); exact BK356.out) hb); have n1_ := Aside0.mk (below_step (by repeat with_reducible first | exact HB.out | apply below_alloc | apply pw_below_drewN | apply below_drew1 | refine below_set ?_ GE356.out) hb); clear BK356; clear HB; have BK356 := n0_; have HB := n1_; clear n0_ n1_; (try clear hb); (try clear hb2); (try clear hk); (try clear hi); have hcz15_0 : w14.cell? ⟨gb356, 0, none⟩ = some (.int .i64 a0_0) := (blk_cell BK356.out 0).trans rfl; have hcz15_1 : w14.cell? ⟨gb356, 1, none⟩ = some (.int .i64 a0_1) := (blk_cell BK356.out 1).trans rfl; have hcz15_2 : w14.cell? ⟨gb356, 2, none⟩ = some (.slice A0_2 l0_2.length c0_2) := (blk_cell BK356.out 2).trans rfl; have hcz15_3 : w14.cell? ⟨gb356, 3, none⟩ = some (.slice A0_3 l0_3.length c0_3) := (blk_cell BK356.out 3).trans rfl; have hfz15_0 := blk_frozen BK356.out 0; have hfz15_1 := blk_frozen BK356.out 1; have hfz15_2 := blk_frozen BK356.out 2; have hfz15_3 := blk_frozen BK356.out 3) | (go_at_call 20; (with_reducible refine (dom_Nearest.calls k a0_0 a0_1 _ _ l0_2 _ _ l0_3 t359 _ ?side1 ?side2 ?side3 ?side4 A5.out).mono ?_); (case side1 => repeat (first | exact (C_below HR0_2.out HB.out) | (with_reducible refine C_alloc ?_ _) | (with_reducible refine C_drewN ?_ _) | (with_reducible refine C_drew ?_))); (case side2 => exact HC0_2.out); (case side3 => repeat (first | exact (C_below HR0_3.out HB.out) | (with_reducible refine C_alloc ?_ _) | (with_reducible refine C_drewN ?_ _) | (with_reducible refine C_drew ?_))); (case side4 => exact HC0_3.out); rintro e w16 ⟨v360, rfl, ho0, hb⟩; have n0_ := Aside0.mk (Kd.R_lower ho0 (below_size (by repeat with_reducible first | exact HB.out | apply below_alloc | apply pw_below_drewN | apply below_drew1 | refine below_set ?_ GE356.out))); have n1_ := Aside0.mk (blk_below (g := gb356) (o := .cells #[.int .i64 a0_0, .int .i64 a0_1, .slice A0_2 l0_2.length c0_2, .slice A0_3 l0_3.length c0_3] 25 (0, 0)) (by (with_reducible repeat (first | refine blk_drewN ?_ _ | refine blk_drew ?_ | refine blk_alloc ?_ _)); exact BK356.out) hb); have n2_ := Aside0.mk (below_step (by repeat with_reducible first | exact HB.out | apply below_alloc | apply pw_below_drewN | apply below_drew1 | refine below_set ?_ GE356.out) hb); clear BK356; clear HB; have HO361 := n0_; have BK356 := n1_; have HB := n2_; clear n0_ n1_ n2_; (try clear hb); (try clear hb2); (try clear hk); (try clear hi); (try clear ho0); have hcz17_0 : w16.cell? ⟨gb356, 0, none⟩ = some (.int .i64 a0_0) := (blk_cell BK356.out 0).trans rfl; have hcz17_1 : w16.cell? ⟨gb356, 1, none⟩ = some (.int .i64 a0_1) := (blk_cell BK356.out 1).trans rfl; have hcz17_2 : w16.cell? ⟨gb356, 2, none⟩ = some (.slice A0_2 l0_2.length c0_2) := (blk_cell BK356.out 2).trans rfl; have hcz17_3 : w16.cell? ⟨gb356, 3, none⟩ = some (.slice A0_3 l0_3.length c0_3) := (blk_cell BK356.out 3).trans rfl; have hfz17_0 := blk_frozen BK356.out 0; have hfz17_1 := blk_frozen BK356.out 1; have hfz17_2 := blk_frozen BK356.out 2; have hfz17_3 := blk_frozen BK356.out 3) | (go_at_call 17; (with_reducible refine (dom_Dominates.calls k a0_0 a0_1 _ _ l0_2 _ _ l0_3 t362 _ ?side1 ?side2 ?side3 ?side4 A6.out).mono ?_); (case side1 => repeat (first | exact (C_below HR0_2.out HB.out) | (with_reducible refine C_alloc ?_ _) | (with_reducible refine C_drewN ?_ _) | (with_reducible refine C_drew ?_))); (case side2 => exact HC0_2.out); (case side3 => repeat (first | exact (C_below HR0_3.out HB.out) | (with_reducible refine C_alloc ?_ _) | (with_reducible refine C_drewN ?_ _) | (with_reducible refine C_drew ?_))); (case side4 => exact HC0_3.out); rintro e w18 ⟨v363, rfl, ho0, hb⟩; have n0_ := Aside0.mk (Kd.R_below (by (with_reducible repeat (first | apply R_alloc | apply R_drewN | apply R_drew)); exact HO361.out) hb); have n1_ := Aside0.mk (Kd.S_lower ho0 (below_size (by repeat with_reducible first | exact HB.out | apply below_alloc | apply pw_below_drewN | apply below_drew1 | refine below_set ?_ GE356.out))); have n2_ := Aside0.mk (blk_below (g := gb356) (o := .cells #[.int .i64 a0_0, .int .i64 a0_1, .slice A0_2 l0_2.length c0_2, .slice A0_3 l0_3.length c0_3] 25 (0, 0)) (by (with_reducible repeat (first | refine blk_drewN ?_ _ | refine blk_drew ?_ | refine blk_alloc ?_ _)); exact BK356.out) hb); have n3_ := Aside0.mk (below_step (by repeat with_reducible first | exact HB.out | apply below_alloc | apply pw_below_drewN | apply below_drew1 | refine below_set ?_ GE356.out) hb); clear HO361; clear BK356; clear HB; have HO361 := n0_; have HO364 := n1_; have BK356 := n2_; have HB := n3_; clear n0_ n1_ n2_ n3_; (try clear hb); (try clear hb2); (try clear hk); (try clear hi); (try clear ho0); have hcz19_0 : w18.cell? ⟨gb356, 0, none⟩ = some (.int .i64 a0_0) := (blk_cell BK356.out 0).trans rfl; have hcz19_1 : w18.cell? ⟨gb356, 1, none⟩ = some (.int .i64 a0_1) := (blk_cell BK356.out 1).trans rfl; have hcz19_2 : w18.cell? ⟨gb356, 2, none⟩ = some (.slice A0_2 l0_2.length c0_2) := (blk_cell BK356.out 2).trans rfl; have hcz19_3 : w18.cell? ⟨gb356, 3, none⟩ = some (.slice A0_3 l0_3.length c0_3) := (blk_cell BK356.out 3).trans rfl; have hfz19_0 := blk_frozen BK356.out 0; have hfz19_1 := blk_frozen BK356.out 1; have hfz19_2 := blk_frozen BK356.out 2; have hfz19_3 := blk_frozen BK356.out 3) | (go_at_call 21; (with_reducible refine (dom_Under.calls k a0_0 a0_1 _ _ l0_2 _ _ l0_3 t365 _ ?side1 ?side2 ?side3 ?side4 A7.out).mono ?_); (case side1 => repeat (first | exact (C_below HR0_2.out HB.out) | (with_reducible refine C_alloc ?_ _) | (with_reducible refine C_drewN ?_ _) | (with_reducible refine C_drew ?_))); (case side2 => exact HC0_2.out); (case side3 => repeat (first | exact (C_below HR0_3.out HB.out) | (with_reducible refine C_alloc ?_ _) | (with_reducible refine C_drewN ?_ _) | (with_reducible refine C_drew ?_))); (case side4 => exact HC0_3.out); rintro e w20 ⟨v366, rfl, ho0, hb⟩; have n0_ := Aside0.mk (Kd.R_below (by (with_reducible repeat (first | apply R_alloc | apply R_drewN | apply R_drew)); exact HO361.out) hb); have n1_ := Aside0.mk (Kd.S_below (by (with_reducible repeat (first | apply S_alloc | apply S_drewN | apply S_drew)); exact HO364.out) hb); have n2_ := Aside0.mk (Kd.S_lower (Kd.S_new' ho0 (R_lt (by (with_reducible repeat (first | apply R_alloc | apply R_drewN | apply R_drew)); exact HO361.out))) (below_size (by repeat with_reducible first | exact HB.out | apply below_alloc | apply pw_below_drewN | apply below_drew1 | refine below_set ?_ GE356.out))); have n3_ := Aside0.mk (blk_below (g := gb356) (o := .cells #[.int .i64 a0_0, .int .i64 a0_1, .slice A0_2 l0_2.length c0_2, .slice A0_3 l0_3.length c0_3] 25 (0, 0)) (by (with_reducible repeat (first | refine blk_drewN ?_ _ | refine blk_drew ?_ | refine blk_alloc ?_ _)); exact BK356.out) hb); have n4_ := Aside0.mk (below_step (by repeat with_reducible first | exact HB.out | apply below_alloc | apply pw_below_drewN | apply below_drew1 | refine below_set ?_ GE356.out) hb); clear HO361; clear HO364; clear BK356; clear HB; have HO361 := n0_; have HO364 := n1_; have HO367 := n2_; have BK356 := n3_; have HB := n4_; clear n0_ n1_ n2_ n3_ n4_; (try clear hb); (try clear hb2); (try clear hk); (try clear hi); (try clear ho0); have hcz21_0 : w20.cell? ⟨gb356, 0, none⟩ = some (.int .i64 a0_0) := (blk_cell BK356.out 0).trans rfl; have hcz21_1 : w20.cell? ⟨gb356, 1, none⟩ = some (.int .i64 a0_1) := (blk_cell BK356.out 1).trans rfl; have hcz21_2 : w20.cell? ⟨gb356, 2, none⟩ = some (.slice A0_2 l0_2.length c0_2) := (blk_cell BK356.out 2).trans rfl; have hcz21_3 : w20.cell? ⟨gb356, 3, none⟩ = some (.slice A0_3 l0_3.length c0_3) := (blk_cell BK356.out 3).trans rfl; have hfz21_0 := blk_frozen BK356.out 0; have hfz21_1 := blk_frozen BK356.out 1; have hfz21_2 := blk_frozen BK356.out 2; have hfz21_3 := blk_frozen BK356.out 3) | (go_at_call 22; (with_reducible refine (fettleref06_Nearest.calls k a0_0 a0_1 _ _ l0_2 _ _ l0_3 t368 _ ?side1 ?side2 ?side3 ?side4 A8.out).mono ?_); (case side1 => repeat (first | exact (C_below HR0_2.out HB.out) | (with_reducible refine C_alloc ?_ _) | (with_reducible refine C_drewN ?_ _) | (with_reducible refine C_drew ?_))); (case side2 => exact HC0_2.out); (case side3 => repeat (first | exact (C_below HR0_3.out HB.out) | (with_reducible refine C_alloc ?_ _) | (with_reducible refine C_drewN ?_ _) | (with_reducible refine C_drew ?_))); (case side4 => exact HC0_3.out); rintro e w22 ⟨v369, rfl, ho0, hb⟩; have n0_ := Aside0.mk (R_elder' (by (with_reducible repeat (first | apply R_alloc | apply R_drewN | apply R_drew)); exact HO361.out) (R_base ho0) hb); have n1_ := Aside0.mk (Kd.S_below (by (with_reducible repeat (first | apply S_alloc | apply S_drewN | apply S_drew)); exact HO364.out) hb); have n2_ := Aside0.mk (Kd.S_elder' (by (with_reducible repeat (first | apply S_alloc | apply S_drewN | apply S_drew)); exact HO367.out) (R_base ho0) hb); have n3_ := Aside0.mk (Kd.R_lower (R_new' ho0 (R_lt (by (with_reducible repeat (first | apply R_alloc | apply R_drewN | apply R_drew)); exact HO361.out))) (below_size (by repeat with_reducible first | exact HB.out | apply below_alloc | apply pw_below_drewN | apply below_drew1 | refine below_set ?_ GE356.out))); have n4_ := Aside0.mk (blk_below (g := gb356) (o := .cells #[.int .i64 a0_0, .int .i64 a0_1, .slice A0_2 l0_2.length c0_2, .slice A0_3 l0_3.length c0_3] 25 (0, 0)) (by (with_reducible repeat (first | refine blk_drewN ?_ _ | refine blk_drew ?_ | refine blk_alloc ?_ _)); exact BK356.out) hb); have n5_ := Aside0.mk (below_step (by repeat with_reducible first | exact HB.out | apply below_alloc | apply pw_below_drewN | apply below_drew1 | refine below_set ?_ GE356.out) hb); clear HO361; clear HO364; clear HO367; clear BK356; clear HB; have HO361 := n0_; have HO364 := n1_; have HO367 := n2_; have HO370 := n3_; have BK356 := n4_; have HB := n5_; clear n0_ n1_ n2_ n3_ n4_ n5_; (try clear hb); (try clear hb2); (try clear hk); (try clear hi); (try clear ho0); have hcz23_0 : w22.cell? ⟨gb356, 0, none⟩ = some (.int .i64 a0_0) := (blk_cell BK356.out 0).trans rfl; have hcz23_1 : w22.cell? ⟨gb356, 1, none⟩ = some (.int .i64 a0_1) := (blk_cell BK356.out 1).trans rfl; have hcz23_2 : w22.cell? ⟨gb356, 2, none⟩ = some (.slice A0_2 l0_2.length c0_2) := (blk_cell BK356.out 2).trans rfl; have hcz23_3 : w22.cell? ⟨gb356, 3, none⟩ = some (.slice A0_3 l0_3.length c0_3) := (blk_cell BK356.out 3).trans rfl; have hfz23_0 := blk_frozen BK356.out 0; have hfz23_1 := blk_frozen BK356.out 1; have hfz23_2 := blk_frozen BK356.out 2; have hfz23_3 := blk_frozen BK356.out 3) | (go_at_call 14; (with_reducible refine (fettleref06_Dominates.calls k a0_0 a0_1 _ _ l0_2 _ _ l0_3 t371 _ ?side1 ?side2 ?side3 ?side4 A9.out).mono ?_); (case side1 => repeat (first | exact (C_below HR0_2.out HB.out) | (with_reducible refine C_alloc ?_ _) | (with_reducible refine C_drewN ?_ _) | (with_reducible refine C_drew ?_))); (case side2 => exact HC0_2.out); (case side3 => repeat (first | exact (C_below HR0_3.out HB.out) | (with_reducible refine C_alloc ?_ _) | (with_reducible refine C_drewN ?_ _) | (with_reducible refine C_drew ?_))); (case side4 => exact HC0_3.out); rintro e w24 ⟨v372, rfl, ho0, hb⟩; have n0_ := Aside0.mk (Kd.R_below (by (with_reducible repeat (first | apply R_alloc | apply R_drewN | apply R_drew)); exact HO361.out) hb); have n1_ := Aside0.mk (Kd.S_elder' (by (with_reducible repeat (first | apply S_alloc | apply S_drewN | apply S_drew)); exact HO364.out) (Kd.S_base ho0) hb); have n2_ := Aside0.mk (Kd.S_below (by (with_reducible repeat (first | apply S_alloc | apply S_drewN | apply S_drew)); exact HO367.out) hb); have n3_ := Aside0.mk (Kd.R_below (by (with_reducible repeat (first | apply R_alloc | apply R_drewN | apply R_drew)); exact HO370.out) hb); have n4_ := Aside0.mk (Kd.S_lower (Kd.S_new' ho0 (Kd.S_lt (by (with_reducible repeat (first | apply S_alloc | apply S_drewN | apply S_drew)); exact HO364.out))) (below_size (by repeat with_reducible first | exact HB.out | apply below_alloc | apply pw_below_drewN | apply below_drew1 | refine below_set ?_ GE356.out))); have n5_ := Aside0.mk (blk_below (g := gb356) (o := .cells #[.int .i64 a0_0, .int .i64 a0_1, .slice A0_2 l0_2.length c0_2, .slice A0_3 l0_3.length c0_3] 25 (0, 0)) (by (with_reducible repeat (first | refine blk_drewN ?_ _ | refine blk_drew ?_ | refine blk_alloc ?_ _)); exact BK356.out) hb); have n6_ := Aside0.mk (below_step (by repeat with_reducible first | exact HB.out | apply below_alloc | apply pw_below_drewN | apply below_drew1 | refine below_set ?_ GE356.out) hb); clear HO361; clear HO364; clear HO367; clear HO370; clear BK356; clear HB; have HO361 := n0_; have HO364 := n1_; have HO367 := n2_; have HO370 := n3_; have HO373 := n4_; have BK356 := n5_; have HB := n6_; clear n0_ n1_ n2_ n3_ n4_ n5_ n6_; (try clear hb); (try clear hb2); (try clear hk); (try clear hi); (try clear ho0))); go_upto_region 10 with (first | ((with_reducible refine gate_dst (N := 1) rfl ?_); (try (refine gate_guard (by rfl) ?_; dsimp only)); refine box_event ?hg (N := 1) ?hd (cs := #[.int .i64 a0_0, .int .i64 a0_1, .slice A0_2 l0_2.length c0_2, .slice A0_3 l0_3.length c0_3]) (t := 25) ?hr ?_; (case hd => rfl); (case hg => rfl); (case hr => first | (go_simp; done) | (go_simp; rfl)); intro gb356 hg w11 hbox hb; have n0_ := Aside0.mk (below_step (by repeat with_reducible first | exact HB.out | apply below_alloc | apply pw_below_drewN | apply below_drew1) hb); have n1_ := Aside0.mk (hbox); have n2_ := Aside0.mk ((by rw [hg]; exact (below_size (by repeat with_reducible first | exact HB.out | apply below_alloc | apply pw_below_drewN | apply below_drew1)) : w.heap.size ≤ gb356)); have n3_ := Aside0.mk ((by rw [hg]; exact (below_size (by repeat with_reducible first | exact HB.out | apply below_alloc | apply pw_below_drewN | apply below_drew1)) : w.heap.size ≤ gb356)); clear HB; have HB := n0_; have BK356 := n1_; have GW356 := n2_; have GE356 := n3_; clear n0_ n1_ n2_ n3_; clear hb hbox hg) | (go_at_call 11; (with_reducible refine (fettlelaw06_up.calls k  t357 _ A2.out).mono ?_); rintro e w12 ⟨rfl, hb⟩; have n0_ := Aside0.mk (blk_below (g := gb356) (o := .cells #[.int .i64 a0_0, .int .i64 a0_1, .slice A0_2 l0_2.length c0_2, .slice A0_3 l0_3.length c0_3] 25 (0, 0)) (by (with_reducible repeat (first | refine blk_drewN ?_ _ | refine blk_drew ?_ | refine blk_alloc ?_ _)); exact BK356.out) hb); have n1_ := Aside0.mk (below_step (by repeat with_reducible first | exact HB.out | apply below_alloc | apply pw_below_drewN | apply below_drew1 | refine below_set ?_ GE356.out) hb); clear BK356; clear HB; have BK356 := n0_; have HB := n1_; clear n0_ n1_; (try clear hb); (try clear hb2); (try clear hk); (try clear hi); have hcz13_0 : w12.cell? ⟨gb356, 0, none⟩ = some (.int .i64 a0_0) := (blk_cell BK356.out 0).trans rfl; have hcz13_1 : w12.cell? ⟨gb356, 1, none⟩ = some (.int .i64 a0_1) := (blk_cell BK356.out 1).trans rfl; have hcz13_2 : w12.cell? ⟨gb356, 2, none⟩ = some (.slice A0_2 l0_2.length c0_2) := (blk_cell BK356.out 2).trans rfl; have hcz13_3 : w12.cell? ⟨gb356, 3, none⟩ = some (.slice A0_3 l0_3.length c0_3) := (blk_cell BK356.out 3).trans rfl; have hfz13_0 := blk_frozen BK356.out 0; have hfz13_1 := blk_frozen BK356.out 1; have hfz13_2 := blk_frozen BK356.out 2; have hfz13_3 := blk_frozen BK356.out 3) | (go_at_call 12; (with_reducible refine (fettlelaw06_small.calls k a0_0 a0_1 (fun k_ => k_ < w.heap.size) _ _ l0_2 (fun k_ => k_ < w.heap.size) _ _ l0_3 true _ ?side1 ?side2 A3.out).mono ?_); (case side1 => exact Kd.V_mk HC0_2.out (Kd.F_below (Kd.C_F (Kd.heap_int .i64) HR0_2.out) (by repeat with_reducible first | exact HB.out | apply below_alloc | apply pw_below_drewN | apply below_drew1 | refine below_set ?_ GE356.out))); (case side2 => exact Kd.V_mk HC0_3.out (Kd.F_below (Kd.C_F k52_heap HR0_3.out) (by repeat with_reducible first | exact HB.out | apply below_alloc | apply pw_below_drewN | apply below_drew1 | refine below_set ?_ GE356.out))); rintro e w14 ⟨rfl, hb⟩; have n0_ := Aside0.mk (blk_below (g := gb356) (o := .cells #[.int .i64 a0_0, .int .i64 a0_1, .slice A0_2 l0_2.length c0_2, .slice A0_3 l0_3.length c0_3] 25 (0, 0)) (by (with_reducible repeat (first | refine blk_drewN ?_ _ | refine blk_drew ?_ | refine blk_alloc ?_ _)); exact BK356.out) hb); have n1_ := Aside0.mk (below_step (by repeat with_reducible first | exact HB.out | apply below_alloc | apply pw_below_drewN | apply below_drew1 | refine below_set ?_ GE356.out) hb); clear BK356; clear HB; have BK356 := n0_; have HB := n1_; clear n0_ n1_; (try clear hb); (try clear hb2); (try clear hk); (try clear hi); have hcz15_0 : w14.cell? ⟨gb356, 0, none⟩ = some (.int .i64 a0_0) := (blk_cell BK356.out 0).trans rfl; have hcz15_1 : w14.cell? ⟨gb356, 1, none⟩ = some (.int .i64 a0_1) := (blk_cell BK356.out 1).trans rfl; have hcz15_2 : w14.cell? ⟨gb356, 2, none⟩ = some (.slice A0_2 l0_2.length c0_2) := (blk_cell BK356.out 2).trans rfl; have hcz15_3 : w14.cell? ⟨gb356, 3, none⟩ = some (.slice A0_3 l0_3.length c0_3) := (blk_cell BK356.out 3).trans rfl; have hfz15_0 := blk_frozen BK356.out 0; have hfz15_1 := blk_frozen BK356.out 1; have hfz15_2 := blk_frozen BK356.out 2; have hfz15_3 := blk_frozen BK356.out 3) | (go_at_call 20; (with_reducible refine (dom_Nearest.calls k a0_0 a0_1 _ _ l0_2 _ _ l0_3 t359 _ ?side1 ?side2 ?side3 ?side4 A5.out).mono ?_); (case side1 => repeat (first | exact (C_below HR0_2.out HB.out) | (with_reducible refine C_alloc ?_ _) | (with_reducible refine C_drewN ?_ _) | (with_reducible refine C_drew ?_))); (case side2 => exact HC0_2.out); (case side3 => repeat (first | exact (C_below HR0_3.out HB.out) | (with_reducible refine C_alloc ?_ _) | (with_reducible refine C_drewN ?_ _) | (with_reducible refine C_drew ?_))); (case side4 => exact HC0_3.out); rintro e w16 ⟨v360, rfl, ho0, hb⟩; have n0_ := Aside0.mk (Kd.R_lower ho0 (below_size (by repeat with_reducible first | exact HB.out | apply below_alloc | apply pw_below_drewN | apply below_drew1 | refine below_set ?_ GE356.out))); have n1_ := Aside0.mk (blk_below (g := gb356) (o := .cells #[.int .i64 a0_0, .int .i64 a0_1, .slice A0_2 l0_2.length c0_2, .slice A0_3 l0_3.length c0_3] 25 (0, 0)) (by (with_reducible repeat (first | refine blk_drewN ?_ _ | refine blk_drew ?_ | refine blk_alloc ?_ _)); exact BK356.out) hb); have n2_ := Aside0.mk (below_step (by repeat with_reducible first | exact HB.out | apply below_alloc | apply pw_below_drewN | apply below_drew1 | refine below_set ?_ GE356.out) hb); clear BK356; clear HB; have HO361 := n0_; have BK356 := n1_; have HB := n2_; clear n0_ n1_ n2_; (try clear hb); (try clear hb2); (try clear hk); (try clear hi); (try clear ho0); have hcz17_0 : w16.cell? ⟨gb356, 0, none⟩ = some (.int .i64 a0_0) := (blk_cell BK356.out 0).trans rfl; have hcz17_1 : w16.cell? ⟨gb356, 1, none⟩ = some (.int .i64 a0_1) := (blk_cell BK356.out 1).trans rfl; have hcz17_2 : w16.cell? ⟨gb356, 2, none⟩ = some (.slice A0_2 l0_2.length c0_2) := (blk_cell BK356.out 2).trans rfl; have hcz17_3 : w16.cell? ⟨gb356, 3, none⟩ = some (.slice A0_3 l0_3.length c0_3) := (blk_cell BK356.out 3).trans rfl; have hfz17_0 := blk_frozen BK356.out 0; have hfz17_1 := blk_frozen BK356.out 1; have hfz17_2 := blk_frozen BK356.out 2; have hfz17_3 := blk_frozen BK356.out 3) | (go_at_call 17; (with_reducible refine (dom_Dominates.calls k a0_0 a0_1 _ _ l0_2 _ _ l0_3 t362 _ ?side1 ?side2 ?side3 ?side4 A6.out).mono ?_); (case side1 => repeat (first | exact (C_below HR0_2.out HB.out) | (with_reducible refine C_alloc ?_ _) | (with_reducible refine C_drewN ?_ _) | (with_reducible refine C_drew ?_))); (case side2 => exact HC0_2.out); (case side3 => repeat (first | exact (C_below HR0_3.out HB.out) | (with_reducible refine C_alloc ?_ _) | (with_reducible refine C_drewN ?_ _) | (with_reducible refine C_drew ?_))); (case side4 => exact HC0_3.out); rintro e w18 ⟨v363, rfl, ho0, hb⟩; have n0_ := Aside0.mk (Kd.R_below (by (with_reducible repeat (first | apply R_alloc | apply R_drewN | apply R_drew)); exact HO361.out) hb); have n1_ := Aside0.mk (Kd.S_lower ho0 (below_size (by repeat with_reducible first | exact HB.out | apply below_alloc | apply pw_below_drewN | apply below_drew1 | refine below_set ?_ GE356.out))); have n2_ := Aside0.mk (blk_below (g := gb356) (o := .cells #[.int .i64 a0_0, .int .i64 a0_1, .slice A0_2 l0_2.length c0_2, .slice A0_3 l0_3.length c0_3] 25 (0, 0)) (by (with_reducible repeat (first | refine blk_drewN ?_ _ | refine blk_drew ?_ | refine blk_alloc ?_ _)); exact BK356.out) hb); have n3_ := Aside0.mk (below_step (by repeat with_reducible first | exact HB.out | apply below_alloc | apply pw_below_drewN | apply below_drew1 | refine below_set ?_ GE356.out) hb); clear HO361; clear BK356; clear HB; have HO361 := n0_; have HO364 := n1_; have BK356 := n2_; have HB := n3_; clear n0_ n1_ n2_ n3_; (try clear hb); (try clear hb2); (try clear hk); (try clear hi); (try clear ho0); have hcz19_0 : w18.cell? ⟨gb356, 0, none⟩ = some (.int .i64 a0_0) := (blk_cell BK356.out 0).trans rfl; have hcz19_1 : w18.cell? ⟨gb356, 1, none⟩ = some (.int .i64 a0_1) := (blk_cell BK356.out 1).trans rfl; have hcz19_2 : w18.cell? ⟨gb356, 2, none⟩ = some (.slice A0_2 l0_2.length c0_2) := (blk_cell BK356.out 2).trans rfl; have hcz19_3 : w18.cell? ⟨gb356, 3, none⟩ = some (.slice A0_3 l0_3.length c0_3) := (blk_cell BK356.out 3).trans rfl; have hfz19_0 := blk_frozen BK356.out 0; have hfz19_1 := blk_frozen BK356.out 1; have hfz19_2 := blk_frozen BK356.out 2; have hfz19_3 := blk_frozen BK356.out 3) | (go_at_call 21; (with_reducible refine (dom_Under.calls k a0_0 a0_1 _ _ l0_2 _ _ l0_3 t365 _ ?side1 ?side2 ?side3 ?side4 A7.out).mono ?_); (case side1 => repeat (first | exact (C_below HR0_2.out HB.out) | (with_reducible refine C_alloc ?_ _) | (with_reducible refine C_drewN ?_ _) | (with_reducible refine C_drew ?_))); (case side2 => exact HC0_2.out); (case side3 => repeat (first | exact (C_below HR0_3.out HB.out) | (with_reducible refine C_alloc ?_ _) | (with_reducible refine C_drewN ?_ _) | (with_reducible refine C_drew ?_))); (case side4 => exact HC0_3.out); rintro e w20 ⟨v366, rfl, ho0, hb⟩; have n0_ := Aside0.mk (Kd.R_below (by (with_reducible repeat (first | apply R_alloc | apply R_drewN | apply R_drew)); exact HO361.out) hb); have n1_ := Aside0.mk (Kd.S_below (by (with_reducible repeat (first | apply S_alloc | apply S_drewN | apply S_drew)); exact HO364.out) hb); have n2_ := Aside0.mk (Kd.S_lower (Kd.S_new' ho0 (R_lt (by (with_reducible repeat (first | apply R_alloc | apply R_drewN | apply R_drew)); exact HO361.out))) (below_size (by repeat with_reducible first | exact HB.out | apply below_alloc | apply pw_below_drewN | apply below_drew1 | refine below_set ?_ GE356.out))); have n3_ := Aside0.mk (blk_below (g := gb356) (o := .cells #[.int .i64 a0_0, .int .i64 a0_1, .slice A0_2 l0_2.length c0_2, .slice A0_3 l0_3.length c0_3] 25 (0, 0)) (by (with_reducible repeat (first | refine blk_drewN ?_ _ | refine blk_drew ?_ | refine blk_alloc ?_ _)); exact BK356.out) hb); have n4_ := Aside0.mk (below_step (by repeat with_reducible first | exact HB.out | apply below_alloc | apply pw_below_drewN | apply below_drew1 | refine below_set ?_ GE356.out) hb); clear HO361; clear HO364; clear BK356; clear HB; have HO361 := n0_; have HO364 := n1_; have HO367 := n2_; have BK356 := n3_; have HB := n4_; clear n0_ n1_ n2_ n3_ n4_; (try clear hb); (try clear hb2); (try clear hk); (try clear hi); (try clear ho0); have hcz21_0 : w20.cell? ⟨gb356, 0, none⟩ = some (.int .i64 a0_0) := (blk_cell BK356.out 0).trans rfl; have hcz21_1 : w20.cell? ⟨gb356, 1, none⟩ = some (.int .i64 a0_1) := (blk_cell BK356.out 1).trans rfl; have hcz21_2 : w20.cell? ⟨gb356, 2, none⟩ = some (.slice A0_2 l0_2.length c0_2) := (blk_cell BK356.out 2).trans rfl; have hcz21_3 : w20.cell? ⟨gb356, 3, none⟩ = some (.slice A0_3 l0_3.length c0_3) := (blk_cell BK356.out 3).trans rfl; have hfz21_0 := blk_frozen BK356.out 0; have hfz21_1 := blk_frozen BK356.out 1; have hfz21_2 := blk_frozen BK356.out 2; have hfz21_3 := blk_frozen BK356.out 3) | (go_at_call 22; (with_reducible refine (fettleref06_Nearest.calls k a0_0 a0_1 _ _ l0_2 _ _ l0_3 t368 _ ?side1 ?side2 ?side3 ?side4 A8.out).mono ?_); (case side1 => repeat (first | exact (C_below HR0_2.out HB.out) | (with_reducible refine C_alloc ?_ _) | (with_reducible refine C_drewN ?_ _) | (with_reducible refine C_drew ?_))); (case side2 => exact HC0_2.out); (case side3 => repeat (first | exact (C_below HR0_3.out HB.out) | (with_reducible refine C_alloc ?_ _) | (with_reducible refine C_drewN ?_ _) | (with_reducible refine C_drew ?_))); (case side4 => exact HC0_3.out); rintro e w22 ⟨v369, rfl, ho0, hb⟩; have n0_ := Aside0.mk (R_elder' (by (with_reducible repeat (first | apply R_alloc | apply R_drewN | apply R_drew)); exact HO361.out) (R_base ho0) hb); have n1_ := Aside0.mk (Kd.S_below (by (with_reducible repeat (first | apply S_alloc | apply S_drewN | apply S_drew)); exact HO364.out) hb); have n2_ := Aside0.mk (Kd.S_elder' (by (with_reducible repeat (first | apply S_alloc | apply S_drewN | apply S_drew)); exact HO367.out) (R_base ho0) hb); have n3_ := Aside0.mk (Kd.R_lower (R_new' ho0 (R_lt (by (with_reducible repeat (first | apply R_alloc | apply R_drewN | apply R_drew)); exact HO361.out))) (below_size (by repeat with_reducible first | exact HB.out | apply below_alloc | apply pw_below_drewN | apply below_drew1 | refine below_set ?_ GE356.out))); have n4_ := Aside0.mk (blk_below (g := gb356) (o := .cells #[.int .i64 a0_0, .int .i64 a0_1, .slice A0_2 l0_2.length c0_2, .slice A0_3 l0_3.length c0_3] 25 (0, 0)) (by (with_reducible repeat (first | refine blk_drewN ?_ _ | refine blk_drew ?_ | refine blk_alloc ?_ _)); exact BK356.out) hb); have n5_ := Aside0.mk (below_step (by repeat with_reducible first | exact HB.out | apply below_alloc | apply pw_below_drewN | apply below_drew1 | refine below_set ?_ GE356.out) hb); clear HO361; clear HO364; clear HO367; clear BK356; clear HB; have HO361 := n0_; have HO364 := n1_; have HO367 := n2_; have HO370 := n3_; have BK356 := n4_; have HB := n5_; clear n0_ n1_ n2_ n3_ n4_ n5_; (try clear hb); (try clear hb2); (try clear hk); (try clear hi); (try clear ho0); have hcz23_0 : w22.cell? ⟨gb356, 0, none⟩ = some (.int .i64 a0_0) := (blk_cell BK356.out 0).trans rfl; have hcz23_1 : w22.cell? ⟨gb356, 1, none⟩ = some (.int .i64 a0_1) := (blk_cell BK356.out 1).trans rfl; have hcz23_2 : w22.cell? ⟨gb356, 2, none⟩ = some (.slice A0_2 l0_2.length c0_2) := (blk_cell BK356.out 2).trans rfl; have hcz23_3 : w22.cell? ⟨gb356, 3, none⟩ = some (.slice A0_3 l0_3.length c0_3) := (blk_cell BK356.out 3).trans rfl; have hfz23_0 := blk_frozen BK356.out 0; have hfz23_1 := blk_frozen BK356.out 1; have hfz23_2 := blk_frozen BK356.out 2; have hfz23_3 := blk_frozen BK356.out 3) | (go_at_call 14; (with_reducible refine (fettleref06_Dominates.calls k a0_0 a0_1 _ _ l0_2 _ _ l0_3 t371 _ ?side1 ?side2 ?side3 ?side4 A9.out).mono ?_); (case side1 => repeat (first | exact (C_below HR0_2.out HB.out) | (with_reducible refine C_alloc ?_ _) | (with_reducible refine C_drewN ?_ _) | (with_reducible refine C_drew ?_))); (case side2 => exact HC0_2.out); (case side3 => repeat (first | exact (C_below HR0_3.out HB.out) | (with_reducible refine C_alloc ?_ _) | (with_reducible refine C_drewN ?_ _) | (with_reducible refine C_drew ?_))); (case side4 => exact HC0_3.out); rintro e w24 ⟨v372, rfl, ho0, hb⟩; have n0_ := Aside0.mk (Kd.R_below (by (with_reducible repeat (first | apply R_alloc | apply R_drewN | apply R_drew)); exact HO361.out) hb); have n1_ := Aside0.mk (Kd.S_elder' (by (with_reducible repeat (first | apply S_alloc | apply S_drewN | apply S_drew)); exact HO364.out) (Kd.S_base ho0) hb); have n2_ := Aside0.mk (Kd.S_below (by (with_reducible repeat (first | apply S_alloc | apply S_drewN | apply S_drew)); exact HO367.out) hb); have n3_ := Aside0.mk (Kd.R_below (by (with_reducible repeat (first | apply R_alloc | apply R_drewN | apply R_drew)); exact HO370.out) hb); have n4_ := Aside0.mk (Kd.S_lower (Kd.S_new' ho0 (Kd.S_lt (by (with_reducible repeat (first | apply S_alloc | apply S_drewN | apply S_drew)); exact HO364.out))) (below_size (by repeat with_reducible first | exact HB.out | apply below_alloc | apply pw_below_drewN | apply below_drew1 | refine below_set ?_ GE356.out))); have n5_ := Aside0.mk (blk_below (g := gb356) (o := .cells #[.int .i64 a0_0, .int .i64 a0_1, .slice A0_2 l0_2.length c0_2, .slice A0_3 l0_3.length c0_3] 25 (0, 0)) (by (with_reducible repeat (first | refine blk_drewN ?_ _ | refine blk_drew ?_ | refine blk_alloc ?_ _)); exact BK356.out) hb); have n6_ := Aside0.mk (below_step (by repeat with_reducible first | exact HB.out | apply below_alloc | apply pw_below_drewN | apply below_drew1 | refine below_set ?_ GE356.out) hb); clear HO361; clear HO364; clear HO367; clear HO370; clear BK356; clear HB; have HO361 := n0_; have HO364 := n1_; have HO367 := n2_; have HO370 := n3_; have HO373 := n4_; have BK356 := n5_; have HB := n6_; clear n0_ n1_ n2_ n3_ n4_ n5_ n6_; (try clear hb); (try clear hb2); (try clear hk); (try clear hi); (try clear ho0))))
    (try simp only [Act.put, List.setIfInBounds_toArray, List.set_cons_zero, List.set_cons_succ])
    go_cut [46] (fun v46 wc => ∃ (kq : Nat) (x46_9 : Bool), v46 = .bool x46_9 ∧ Aside0 (fettlelaw06_DomNearest.j0 kq t357 t362 t365 t368 t371 x46_9 = some r) ∧ Aside0 (kq ≤ k) ∧ Aside0 (Kd.S (Kd.slice 4 Kd.bool) 34 wc w.heap.size (fun k_ => some k_ ≠ (v372 : Value).ownBlock) v363 t362) ∧ Aside0 (Kd.S (Kd.slice 3 (Kd.int .i64)) 22 wc w.heap.size (fun k_ => some k_ ≠ (v369 : Value).ownBlock) v366 t365) ∧ Aside0 (Kd.R (Kd.int .i64) 3 wc w.heap.size (fun _ => True) v369 t368) ∧ Aside0 (Kd.S (Kd.slice 4 Kd.bool) 34 wc w.heap.size (fun k_ => some k_ ≠ (v363 : Value).ownBlock) v372 t371) ∧ Aside0 (wc.heap[gb356]? = some (.cells #[.int .i64 a0_0, .int .i64 a0_1, (.slice A0_2 l0_2.length c0_2), (.slice A0_3 l0_3.length c0_3)] 25 (0, 0))) ∧ Aside0 (Below w.heap.size w wc))
    case first =>
      have H := HC10.out
      clear HC10
      replace H := Option.bind_eq_some_iff.mp H
      obtain ⟨t374, A250, H⟩ := H
      replace H : (if t374 = true then (if (t362.length : Int) = (t371.length : Int) then (fettlelaw06_DomNearest.j0 k t357 t362 t365 t368 t371 ((t365.length : Int) != (t371.length : Int))) else (fettlelaw06_DomNearest.j0 k t357 t362 t365 t368 t371 true)) else (fettlelaw06_DomNearest.j0 k t357 t362 t365 t368 t371 true)) = some r := H
      have A25 := Aside0.mk A250
      clear A250
      by_cases c26 : t374 = true
      · subst c26
        have H1 : (if (t362.length : Int) = (t371.length : Int) then (fettlelaw06_DomNearest.j0 k t357 t362 t365 t368 t371 ((t365.length : Int) != (t371.length : Int))) else (fettlelaw06_DomNearest.j0 k t357 t362 t365 t368 t371 true)) = some r := by rw [if_pos rfl] at H; exact H
        clear H
        have H := H1
        clear H1
        by_cases c27 : (t362.length : Int) = (t371.length : Int)
        · rw [if_pos c27] at H
          have c27b0 : ((t362.length : Int) == (t371.length : Int)) = true := beq_iff_eq.mpr c27
          have c27b1 : ((t362.length : Int) != (t371.length : Int)) = false := bne_eq_false_iff_eq.mpr c27
          have c27b2 : (t362.length == t371.length) = true := by first | simpa using c27 | (simp at c27 ⊢; omega)
          clear c27
          (first | rw [c27b0] | (simp only [i64_w, i32_w]; rw [c27b0]) | skip)
          have H' := Aside0.mk H
          clear H
          obtain ⟨Ao28, co28, eo28⟩ := Kd.R_slice HO361.out
          subst eo28
          obtain ⟨Ao29, co29, eo29⟩ := Kd.R_slice HO370.out
          subst eo29
          go_wp2_with (first | (go_at_call 15; (with_reducible refine (fettlelaw05_Ints.calls k _ _ t359 _ _ t368 true _ ?side1 ?side2 ?side3 ?side4 A25.out).mono ?_); (case side1 => repeat (first | exact (R_reads' HO361.out).2.2 | (with_reducible refine C_alloc ?_ _) | (with_reducible refine C_drewN ?_ _) | (with_reducible refine C_drew ?_))); (case side2 => exact (R_reads' HO361.out).2.1); (case side3 => repeat (first | exact (R_reads' HO370.out).2.2 | (with_reducible refine C_alloc ?_ _) | (with_reducible refine C_drewN ?_ _) | (with_reducible refine C_drew ?_))); (case side4 => exact (R_reads' HO370.out).2.1); rintro e w' ⟨rfl, ⟨nd, rfl⟩⟩; (try first | exact ⟨rfl, _, World.drewN_drewN _ _ _⟩ | exact ⟨rfl, _, Eq.trans (World.drewN_drewN _ _ _) (congrArg (World.drewN _) (Nat.add_assoc _ _ _))⟩); obtain ⟨Ao30, co30, eo30⟩ := Kd.S_slice HO364.out; subst eo30; obtain ⟨Ao31, co31, eo31⟩ := Kd.S_slice HO373.out; subst eo31; obtain ⟨Ao32, co32, eo32⟩ := Kd.S_slice HO367.out; subst eo32))
          repeat (go_quiet (first | (go_at_call 15; (with_reducible refine (fettlelaw05_Ints.calls k _ _ t359 _ _ t368 true _ ?side1 ?side2 ?side3 ?side4 A25.out).mono ?_); (case side1 => repeat (first | exact (R_reads' HO361.out).2.2 | (with_reducible refine C_alloc ?_ _) | (with_reducible refine C_drewN ?_ _) | (with_reducible refine C_drew ?_))); (case side2 => exact (R_reads' HO361.out).2.1); (case side3 => repeat (first | exact (R_reads' HO370.out).2.2 | (with_reducible refine C_alloc ?_ _) | (with_reducible refine C_drewN ?_ _) | (with_reducible refine C_drew ?_))); (case side4 => exact (R_reads' HO370.out).2.1); rintro e w' ⟨rfl, ⟨nd, rfl⟩⟩; (try first | exact ⟨rfl, _, World.drewN_drewN _ _ _⟩ | exact ⟨rfl, _, Eq.trans (World.drewN_drewN _ _ _) (congrArg (World.drewN _) (Nat.add_assoc _ _ _))⟩); obtain ⟨Ao30, co30, eo30⟩ := Kd.S_slice HO364.out; subst eo30; obtain ⟨Ao31, co31, eo31⟩ := Kd.S_slice HO373.out; subst eo31; obtain ⟨Ao32, co32, eo32⟩ := Kd.S_slice HO367.out; subst eo32)); try go_wp2_with (first | (go_at_call 15; (with_reducible refine (fettlelaw05_Ints.calls k _ _ t359 _ _ t368 true _ ?side1 ?side2 ?side3 ?side4 A25.out).mono ?_); (case side1 => repeat (first | exact (R_reads' HO361.out).2.2 | (with_reducible refine C_alloc ?_ _) | (with_reducible refine C_drewN ?_ _) | (with_reducible refine C_drew ?_))); (case side2 => exact (R_reads' HO361.out).2.1); (case side3 => repeat (first | exact (R_reads' HO370.out).2.2 | (with_reducible refine C_alloc ?_ _) | (with_reducible refine C_drewN ?_ _) | (with_reducible refine C_drew ?_))); (case side4 => exact (R_reads' HO370.out).2.1); rintro e w' ⟨rfl, ⟨nd, rfl⟩⟩; (try first | exact ⟨rfl, _, World.drewN_drewN _ _ _⟩ | exact ⟨rfl, _, Eq.trans (World.drewN_drewN _ _ _) (congrArg (World.drewN _) (Nat.add_assoc _ _ _))⟩); obtain ⟨Ao30, co30, eo30⟩ := Kd.S_slice HO364.out; subst eo30; obtain ⟨Ao31, co31, eo31⟩ := Kd.S_slice HO373.out; subst eo31; obtain ⟨Ao32, co32, eo32⟩ := Kd.S_slice HO367.out; subst eo32)))
          go_meet
          case rel => exact ⟨_, (((t365.length : Int) != (t371.length : Int))), (by first | rfl | (simp; done) | (simp [*]; done)), H', ⟨by first | omega | exact Nat.le_refl _⟩, ⟨by (with_reducible repeat (first | apply S_alloc | apply S_drewN | apply S_drew)); exact S_mono HO364.out (fun _ hk => hk.2)⟩, ⟨by (with_reducible repeat (first | apply S_alloc | apply S_drewN | apply S_drew)); exact S_mono HO367.out (fun _ hk => hk.2)⟩, ⟨by (with_reducible repeat (first | apply R_alloc | apply R_drewN | apply R_drew)); exact R_mono HO370.out (fun _ hk => trivial)⟩, ⟨by (with_reducible repeat (first | apply S_alloc | apply S_drewN | apply S_drew)); exact S_mono HO373.out (fun _ hk => hk.2)⟩, ⟨by (with_reducible repeat (first | refine blk_drewN ?_ _ | refine blk_drew ?_ | refine blk_alloc ?_ _)); exact BK356.out⟩, ⟨by repeat (first | (with_reducible first | exact HB.out | apply below_alloc | apply pw_below_drewN | apply below_drew1 | refine below_set ?_ GE356.out) | exact HB.out)⟩⟩
        rw [if_neg c27] at H
        have c27b0 : ((t362.length : Int) == (t371.length : Int)) = false := beq_eq_false_iff_ne.mpr c27
        have c27b1 : ((t362.length : Int) != (t371.length : Int)) = true := bne_iff_ne.mpr c27
        have c27b2 : (t362.length == t371.length) = false := by first | simpa using c27 | (simp at c27 ⊢; omega)
        (first | rw [c27b0] | (simp only [i64_w, i32_w]; rw [c27b0]) | skip)
        have H' := Aside0.mk H
        clear H
        obtain ⟨Ao33, co33, eo33⟩ := Kd.R_slice HO361.out
        subst eo33
        obtain ⟨Ao34, co34, eo34⟩ := Kd.R_slice HO370.out
        subst eo34
        go_wp2_with (first | (go_at_call 15; (with_reducible refine (fettlelaw05_Ints.calls k _ _ t359 _ _ t368 true _ ?side1 ?side2 ?side3 ?side4 A25.out).mono ?_); (case side1 => repeat (first | exact (R_reads' HO361.out).2.2 | (with_reducible refine C_alloc ?_ _) | (with_reducible refine C_drewN ?_ _) | (with_reducible refine C_drew ?_))); (case side2 => exact (R_reads' HO361.out).2.1); (case side3 => repeat (first | exact (R_reads' HO370.out).2.2 | (with_reducible refine C_alloc ?_ _) | (with_reducible refine C_drewN ?_ _) | (with_reducible refine C_drew ?_))); (case side4 => exact (R_reads' HO370.out).2.1); rintro e w' ⟨rfl, ⟨nd, rfl⟩⟩; (try first | exact ⟨rfl, _, World.drewN_drewN _ _ _⟩ | exact ⟨rfl, _, Eq.trans (World.drewN_drewN _ _ _) (congrArg (World.drewN _) (Nat.add_assoc _ _ _))⟩); obtain ⟨Ao35, co35, eo35⟩ := Kd.S_slice HO364.out; subst eo35; obtain ⟨Ao36, co36, eo36⟩ := Kd.S_slice HO373.out; subst eo36))
        repeat (go_quiet (first | (go_at_call 15; (with_reducible refine (fettlelaw05_Ints.calls k _ _ t359 _ _ t368 true _ ?side1 ?side2 ?side3 ?side4 A25.out).mono ?_); (case side1 => repeat (first | exact (R_reads' HO361.out).2.2 | (with_reducible refine C_alloc ?_ _) | (with_reducible refine C_drewN ?_ _) | (with_reducible refine C_drew ?_))); (case side2 => exact (R_reads' HO361.out).2.1); (case side3 => repeat (first | exact (R_reads' HO370.out).2.2 | (with_reducible refine C_alloc ?_ _) | (with_reducible refine C_drewN ?_ _) | (with_reducible refine C_drew ?_))); (case side4 => exact (R_reads' HO370.out).2.1); rintro e w' ⟨rfl, ⟨nd, rfl⟩⟩; (try first | exact ⟨rfl, _, World.drewN_drewN _ _ _⟩ | exact ⟨rfl, _, Eq.trans (World.drewN_drewN _ _ _) (congrArg (World.drewN _) (Nat.add_assoc _ _ _))⟩); obtain ⟨Ao35, co35, eo35⟩ := Kd.S_slice HO364.out; subst eo35; obtain ⟨Ao36, co36, eo36⟩ := Kd.S_slice HO373.out; subst eo36)); try go_wp2_with (first | (go_at_call 15; (with_reducible refine (fettlelaw05_Ints.calls k _ _ t359 _ _ t368 true _ ?side1 ?side2 ?side3 ?side4 A25.out).mono ?_); (case side1 => repeat (first | exact (R_reads' HO361.out).2.2 | (with_reducible refine C_alloc ?_ _) | (with_reducible refine C_drewN ?_ _) | (with_reducible refine C_drew ?_))); (case side2 => exact (R_reads' HO361.out).2.1); (case side3 => repeat (first | exact (R_reads' HO370.out).2.2 | (with_reducible refine C_alloc ?_ _) | (with_reducible refine C_drewN ?_ _) | (with_reducible refine C_drew ?_))); (case side4 => exact (R_reads' HO370.out).2.1); rintro e w' ⟨rfl, ⟨nd, rfl⟩⟩; (try first | exact ⟨rfl, _, World.drewN_drewN _ _ _⟩ | exact ⟨rfl, _, Eq.trans (World.drewN_drewN _ _ _) (congrArg (World.drewN _) (Nat.add_assoc _ _ _))⟩); obtain ⟨Ao35, co35, eo35⟩ := Kd.S_slice HO364.out; subst eo35; obtain ⟨Ao36, co36, eo36⟩ := Kd.S_slice HO373.out; subst eo36)))
        go_meet
        case rel => exact ⟨_, (true), (by first | rfl | (simp; done) | (simp [*]; done)), H', ⟨by first | omega | exact Nat.le_refl _⟩, ⟨by (with_reducible repeat (first | apply S_alloc | apply S_drewN | apply S_drew)); exact S_mono HO364.out (fun _ hk => hk.2)⟩, ⟨by (with_reducible repeat (first | apply S_alloc | apply S_drewN | apply S_drew)); exact S_mono HO367.out (fun _ hk => hk.2)⟩, ⟨by (with_reducible repeat (first | apply R_alloc | apply R_drewN | apply R_drew)); exact R_mono HO370.out (fun _ hk => trivial)⟩, ⟨by (with_reducible repeat (first | apply S_alloc | apply S_drewN | apply S_drew)); exact S_mono HO373.out (fun _ hk => hk.2)⟩, ⟨by (with_reducible repeat (first | refine blk_drewN ?_ _ | refine blk_drew ?_ | refine blk_alloc ?_ _)); exact BK356.out⟩, ⟨by repeat (first | (with_reducible first | exact HB.out | apply below_alloc | apply pw_below_drewN | apply below_drew1 | refine below_set ?_ GE356.out) | exact HB.out)⟩⟩
      replace c26 := Bool.eq_false_iff.mpr c26
      subst c26
      have H1 : (fettlelaw06_DomNearest.j0 k t357 t362 t365 t368 t371 true) = some r := by rw [if_neg (show ¬ (false = true) by decide)] at H; exact H
      clear H
      have H := H1
      clear H1
      have H' := Aside0.mk H
      clear H
      obtain ⟨Ao37, co37, eo37⟩ := Kd.R_slice HO361.out
      subst eo37
      obtain ⟨Ao38, co38, eo38⟩ := Kd.R_slice HO370.out
      subst eo38
      go_wp2_with (first | (go_at_call 15; (with_reducible refine (fettlelaw05_Ints.calls k _ _ t359 _ _ t368 false _ ?side1 ?side2 ?side3 ?side4 A25.out).mono ?_); (case side1 => repeat (first | exact (R_reads' HO361.out).2.2 | (with_reducible refine C_alloc ?_ _) | (with_reducible refine C_drewN ?_ _) | (with_reducible refine C_drew ?_))); (case side2 => exact (R_reads' HO361.out).2.1); (case side3 => repeat (first | exact (R_reads' HO370.out).2.2 | (with_reducible refine C_alloc ?_ _) | (with_reducible refine C_drewN ?_ _) | (with_reducible refine C_drew ?_))); (case side4 => exact (R_reads' HO370.out).2.1); rintro e w' ⟨rfl, ⟨nd, rfl⟩⟩; (try first | exact ⟨rfl, _, World.drewN_drewN _ _ _⟩ | exact ⟨rfl, _, Eq.trans (World.drewN_drewN _ _ _) (congrArg (World.drewN _) (Nat.add_assoc _ _ _))⟩)))
      repeat (go_quiet (first | (go_at_call 15; (with_reducible refine (fettlelaw05_Ints.calls k _ _ t359 _ _ t368 false _ ?side1 ?side2 ?side3 ?side4 A25.out).mono ?_); (case side1 => repeat (first | exact (R_reads' HO361.out).2.2 | (with_reducible refine C_alloc ?_ _) | (with_reducible refine C_drewN ?_ _) | (with_reducible refine C_drew ?_))); (case side2 => exact (R_reads' HO361.out).2.1); (case side3 => repeat (first | exact (R_reads' HO370.out).2.2 | (with_reducible refine C_alloc ?_ _) | (with_reducible refine C_drewN ?_ _) | (with_reducible refine C_drew ?_))); (case side4 => exact (R_reads' HO370.out).2.1); rintro e w' ⟨rfl, ⟨nd, rfl⟩⟩; (try first | exact ⟨rfl, _, World.drewN_drewN _ _ _⟩ | exact ⟨rfl, _, Eq.trans (World.drewN_drewN _ _ _) (congrArg (World.drewN _) (Nat.add_assoc _ _ _))⟩))); try go_wp2_with (first | (go_at_call 15; (with_reducible refine (fettlelaw05_Ints.calls k _ _ t359 _ _ t368 false _ ?side1 ?side2 ?side3 ?side4 A25.out).mono ?_); (case side1 => repeat (first | exact (R_reads' HO361.out).2.2 | (with_reducible refine C_alloc ?_ _) | (with_reducible refine C_drewN ?_ _) | (with_reducible refine C_drew ?_))); (case side2 => exact (R_reads' HO361.out).2.1); (case side3 => repeat (first | exact (R_reads' HO370.out).2.2 | (with_reducible refine C_alloc ?_ _) | (with_reducible refine C_drewN ?_ _) | (with_reducible refine C_drew ?_))); (case side4 => exact (R_reads' HO370.out).2.1); rintro e w' ⟨rfl, ⟨nd, rfl⟩⟩; (try first | exact ⟨rfl, _, World.drewN_drewN _ _ _⟩ | exact ⟨rfl, _, Eq.trans (World.drewN_drewN _ _ _) (congrArg (World.drewN _) (Nat.add_assoc _ _ _))⟩))))
      go_meet
      case rel => exact ⟨_, (true), (by first | rfl | (simp; done) | (simp [*]; done)), H', ⟨by first | omega | exact Nat.le_refl _⟩, ⟨by (with_reducible repeat (first | apply S_alloc | apply S_drewN | apply S_drew)); exact S_mono HO364.out (fun _ hk => hk.2)⟩, ⟨by (with_reducible repeat (first | apply S_alloc | apply S_drewN | apply S_drew)); exact S_mono HO367.out (fun _ hk => hk.2)⟩, ⟨by (with_reducible repeat (first | apply R_alloc | apply R_drewN | apply R_drew)); exact R_mono HO370.out (fun _ hk => trivial)⟩, ⟨by (with_reducible repeat (first | apply S_alloc | apply S_drewN | apply S_drew)); exact S_mono HO373.out (fun _ hk => hk.2)⟩, ⟨by (with_reducible repeat (first | refine blk_drewN ?_ _ | refine blk_drew ?_ | refine blk_alloc ?_ _)); exact BK356.out⟩, ⟨by repeat (first | (with_reducible first | exact HB.out | apply below_alloc | apply pw_below_drewN | apply below_drew1 | refine below_set ?_ GE356.out) | exact HB.out)⟩⟩
    clear HC10
    try clear c2
    try clear p2
    try clear c4
    try clear c6
    try clear c26
    try clear c27
    try clear c27b0
    try clear c27b1
    try clear c27b2
    try clear hcz13_0
    try clear hcz13_1
    try clear hcz13_2
    try clear hcz13_3
    try clear hcz15_0
    try clear hcz15_1
    try clear hcz15_2
    try clear hcz15_3
    try clear hcz17_0
    try clear hcz17_1
    try clear hcz17_2
    try clear hcz17_3
    try clear hcz19_0
    try clear hcz19_1
    try clear hcz19_2
    try clear hcz19_3
    try clear hcz21_0
    try clear hcz21_1
    try clear hcz21_2
    try clear hcz21_3
    try clear hcz23_0
    try clear hcz23_1
    try clear hcz23_2
    try clear hcz23_3
    try clear hfz13_0
    try clear hfz13_1
    try clear hfz13_2
    try clear hfz13_3
    try clear hfz15_0
    try clear hfz15_1
    try clear hfz15_2
    try clear hfz15_3
    try clear hfz17_0
    try clear hfz17_1
    try clear hfz17_2
    try clear hfz17_3
    try clear hfz19_0
    try clear hfz19_1
    try clear hfz19_2
    try clear hfz19_3
    try clear hfz21_0
    try clear hfz21_1
    try clear hfz21_2
    try clear hfz21_3
    try clear hfz23_0
    try clear hfz23_1
    try clear hfz23_2
    try clear hfz23_3
    obtain ⟨kq, x46_9, rfl, HA, HJ9, HO_6, HO_7, HO_8, HO_9, BK356, HB⟩ := hcut
    rcases kq with _ | kj9
    · exact absurd HA.out (by simp [fettlelaw06_DomNearest.j0])
    have H := HA.out
    clear HA
    simp only [fettlelaw06_DomNearest.j0] at H
    by_cases c39 : x46_9 = true
    · subst c39
      have H1 : (some false) = some r := by rw [if_pos rfl] at H; exact H
      clear H
      have H := H1
      clear H1
      obtain rfl := Option.some.inj H
      go_wp2
      repeat (go_quiet (fail); try go_wp2)
      go_ret
      exact ⟨by first | rfl | (simp [errW_none, errW_some] <;> rfl) | (simp [*, errW_none, errW_some] <;> rfl), by repeat (first | (with_reducible first | exact HB.out | apply below_alloc | apply pw_below_drewN | apply below_drew1 | refine below_set ?_ GE356.out) | exact HB.out)⟩
    replace c39 := Bool.eq_false_iff.mpr c39
    subst c39
    have H1 : (fettlelaw06_DomNearest.l0 kj9 t357 t362 t365 t368 t371 0) = some r := by rw [if_neg (show ¬ (false = true) by decide)] at H; exact H
    clear H
    have H := H1
    clear H1
    have H' := Aside0.mk H
    clear H
    go_wp2
    repeat (go_quiet (fail); try go_wp2)
    go_loopg [10] kj9 (fun kq v10 w' => ∃ (x10_2 : Int), v10 = .int .i64 x10_2 ∧ Aside0 (fettlelaw06_DomNearest.l0 kq t357 t362 t365 t368 t371 x10_2 = some r) ∧ Aside0 (kq ≤ kj9) ∧ Aside0 (Kd.S (Kd.slice 4 Kd.bool) 34 w' w.heap.size (fun k_ => some k_ ≠ (v372 : Value).ownBlock) v363 t362) ∧ Aside0 (Kd.S (Kd.slice 3 (Kd.int .i64)) 22 w' w.heap.size (fun k_ => some k_ ≠ (v369 : Value).ownBlock) v366 t365) ∧ Aside0 (Kd.R (Kd.int .i64) 3 w' w.heap.size (fun _ => True) v369 t368) ∧ Aside0 (Kd.S (Kd.slice 4 Kd.bool) 34 w' w.heap.size (fun k_ => some k_ ≠ (v363 : Value).ownBlock) v372 t371) ∧ Aside0 (w'.heap[gb356]? = some (.cells #[.int .i64 a0_0, .int .i64 a0_1, (.slice A0_2 l0_2.length c0_2), (.slice A0_3 l0_3.length c0_3)] 25 (0, 0))) ∧ Aside0 (Below w.heap.size w w'))
    case atStart => exact ⟨(0), (by first | rfl | (simp; done) | (simp [*]; done)), H', ⟨Nat.le_refl _⟩, ⟨by (with_reducible repeat (first | apply S_alloc | apply S_drewN | apply S_drew)); exact HO_6.out⟩, ⟨by (with_reducible repeat (first | apply S_alloc | apply S_drewN | apply S_drew)); exact HO_7.out⟩, ⟨by (with_reducible repeat (first | apply R_alloc | apply R_drewN | apply R_drew)); exact HO_8.out⟩, ⟨by (with_reducible repeat (first | apply S_alloc | apply S_drewN | apply S_drew)); exact HO_9.out⟩, ⟨by (with_reducible repeat (first | refine blk_drewN ?_ _ | refine blk_drew ?_ | refine blk_alloc ?_ _)); exact BK356.out⟩, ⟨by repeat (first | (with_reducible first | exact HB.out | apply below_alloc | apply pw_below_drewN | apply below_drew1 | refine below_set ?_ GE356.out) | exact HB.out)⟩⟩
    clear H'
    try clear c2
    try clear p2
    try clear c3
    try clear c4
    try clear c6
    try clear c26
    try clear c27
    try clear c27b0
    try clear c27b1
    try clear c27b2
    try clear c39
    try clear hcz13_0
    try clear hcz13_1
    try clear hcz13_2
    try clear hcz13_3
    try clear hcz15_0
    try clear hcz15_1
    try clear hcz15_2
    try clear hcz15_3
    try clear hcz17_0
    try clear hcz17_1
    try clear hcz17_2
    try clear hcz17_3
    try clear hcz19_0
    try clear hcz19_1
    try clear hcz19_2
    try clear hcz19_3
    try clear hcz21_0
    try clear hcz21_1
    try clear hcz21_2
    try clear hcz21_3
    try clear hcz23_0
    try clear hcz23_1
    try clear hcz23_2
    try clear hcz23_3
    try clear hfz13_0
    try clear hfz13_1
    try clear hfz13_2
    try clear hfz13_3
    try clear hfz15_0
    try clear hfz15_1
    try clear hfz15_2
    try clear hfz15_3
    try clear hfz17_0
    try clear hfz17_1
    try clear hfz17_2
    try clear hfz17_3
    try clear hfz19_0
    try clear hfz19_1
    try clear hfz19_2
    try clear hfz19_3
    try clear hfz21_0
    try clear hfz21_1
    try clear hfz21_2
    try clear hfz21_3
    try clear hfz23_0
    try clear hfz23_1
    try clear hfz23_2
    try clear hfz23_3
    try clear p2
    obtain ⟨x10_2, rfl, HA, HK2, HO_6, HO_7, HO_8, HO_9, BK356, HB⟩ := hrel
    rcases gk with _ | k2
    · exact absurd HA.out (by simp [fettlelaw06_DomNearest.l0])
    have H := HA.out
    clear HA
    simp only [fettlelaw06_DomNearest.l0] at H
    by_cases c40 : x10_2 < (t371.length : Int)
    · rw [if_pos c40] at H
      have c40b0 : decide (x10_2 < (t371.length : Int)) = true := decide_eq_true c40
      clear c40
      by_cases c41 : 0 ≤ x10_2
      rotate_left
      · rw [if_neg c41] at H
        exact absurd H (by simp)
      rw [if_pos c41] at H
      have c41b0 : decide (0 ≤ x10_2) = true := decide_eq_true c41
      clear c41
      by_cases c42 : x10_2 < (t362.length : Int)
      rotate_left
      · rw [if_neg c42] at H
        exact absurd H (by simp)
      rw [if_pos c42] at H
      have c42b0 : decide (x10_2 < (t362.length : Int)) = true := decide_eq_true c42
      clear c42
      by_cases c43 : ((rd_L11 t362 x10_2).length : Int) = (t371.length : Int)
      · rw [if_pos c43] at H
        have c43b0 : (((rd_L11 t362 x10_2).length : Int) == (t371.length : Int)) = true := beq_iff_eq.mpr c43
        have c43b1 : (((rd_L11 t362 x10_2).length : Int) != (t371.length : Int)) = false := bne_eq_false_iff_eq.mpr c43
        have c43b2 : ((rd_L11 t362 x10_2).length == t371.length) = true := by first | simpa using c43 | (simp at c43 ⊢; omega)
        clear c43
        have H' := Aside0.mk H
        clear H
        obtain ⟨Ao44, co44, eo44⟩ := Kd.S_slice HO_9.out
        subst eo44
        obtain ⟨Ao45, co45, eo45⟩ := Kd.S_slice HO_6.out
        subst eo45
        have p375 : 0 ≤ (x10_2 : Int) := of_decide_eq_true (by with_reducible assumption)
        have q375 : x10_2 < (t362.length : Int) := of_decide_eq_true (by with_reducible assumption)
        obtain ⟨ad375, A375_0, c375_0, e375, hx375_0, hl375_0, hi375_0⟩ := at_L11 (S_reads' HO_6.out).2.2 x10_2 p375 q375
        cases e375
        obtain ⟨ce375, hce375, hMe375, hcc375⟩ := S_get HO_6.out [] x10_2 p375 (by first | exact q375 | exact of_decide_eq_true (by with_reducible assumption) | (have e_ := (S_reads' HO_6.out).1; omega))
        obtain ⟨ve375_0, rfl, ge375_0⟩ := hMe375
        have hv375_0 := hcc375 0 _ rfl
        rw [Nat.add_zero, show ((Kd.slice 4 Kd.bool)).sz = 1 from rfl, Nat.mul_one] at hv375_0
        replace hv375_0 := Option.some.inj (hv375_0.symm.trans hx375_0)
        rw [hv375_0] at ge375_0
        have HL375_0 := Aside0.mk (show Kd.R Kd.bool 4 _ _ _ _ (rd_L11 t362 x10_2) from ge375_0)
        clear hv375_0 ge375_0
        clear hcc375 hce375
        have HR375_0 := Aside0.mk hi375_0
        have HC375_0 := Aside0.mk hl375_0
        clear hi375_0 hl375_0
        replace p375 := eq_true p375
        replace q375 := eq_true q375
        go_wp2
        repeat (go_quiet (fail); try go_wp2)
        go_loopg [11, 12] k2 (fun kq v11 v12 w' => ∃ (x11_3 : List Int) (x12_3 : Int), v12 = .int .i64 x12_3 ∧ Aside0 (fettlelaw06_DomNearest.l1 kq t357 t362 t365 t368 t371 x10_2 x11_3 x12_3 = some r) ∧ Aside0 (kq ≤ k2) ∧ Aside0 (Kd.S (Kd.slice 4 Kd.bool) 34 w' w.heap.size (fun k_ => some k_ ≠ ((.slice Ao44 t371.length co44) : Value).ownBlock) (.slice (some ad375) t362.length co45) t362) ∧ Aside0 (Kd.S (Kd.slice 3 (Kd.int .i64)) 22 w' w.heap.size (fun k_ => some k_ ≠ (v369 : Value).ownBlock ∧ some k_ ≠ (v11 : Value).ownBlock) v366 t365) ∧ Aside0 (Kd.R (Kd.int .i64) 3 w' w.heap.size (fun k_ => some k_ ≠ (v11 : Value).ownBlock) v369 t368) ∧ Aside0 (Kd.S (Kd.slice 4 Kd.bool) 34 w' w.heap.size (fun k_ => some k_ ≠ ((.slice (some ad375) t362.length co45) : Value).ownBlock) (.slice Ao44 t371.length co44) t371) ∧ Aside0 (Kd.R (Kd.int .i64) 3 w' w.heap.size (fun k_ => some k_ ≠ (v369 : Value).ownBlock) v11 x11_3) ∧ Aside0 (w'.heap[gb356]? = some (.cells #[.int .i64 a0_0, .int .i64 a0_1, (.slice A0_2 l0_2.length c0_2), (.slice A0_3 l0_3.length c0_3)] 25 (0, 0))) ∧ Aside0 (Below w.heap.size w w'))
        case atStart => exact ⟨(([] : List Int)), (0), (by first | rfl | (simp; done) | (simp [*]; done)), H', ⟨Nat.le_refl _⟩, ⟨by (with_reducible repeat (first | apply S_alloc | apply S_drewN | apply S_drew)); exact HO_6.out⟩, ⟨by (with_reducible repeat (first | apply S_alloc | apply S_drewN | apply S_drew)); exact S_mono HO_7.out (fun _ hk => ⟨hk, (by simp [Value.ownBlock])⟩)⟩, ⟨by (with_reducible repeat (first | apply R_alloc | apply R_drewN | apply R_drew)); exact R_mono HO_8.out (fun _ hk => (by simp [Value.ownBlock]))⟩, ⟨by (with_reducible repeat (first | apply S_alloc | apply S_drewN | apply S_drew)); exact HO_9.out⟩, ⟨by first | exact Kd.R_nil _ _ _ _ _ | exact Kd.N_nil _ _ _ _ _ | exact Kd.V_nil _ _ _ _ _ | exact Kd.Q_nil _ _ _ _ _ | exact Kd.S_nil _ _ _ _ _⟩, ⟨by (with_reducible repeat (first | refine blk_drewN ?_ _ | refine blk_drew ?_ | refine blk_alloc ?_ _)); exact BK356.out⟩, ⟨by repeat (first | (with_reducible first | exact HB.out | apply below_alloc | apply pw_below_drewN | apply below_drew1 | refine below_set ?_ GE356.out) | exact HB.out)⟩⟩
        clear H'
        try clear c2
        try clear p2
        try clear c3
        try clear p3
        try clear q3
        try clear hx3
        try clear c4
        try clear c6
        try clear c26
        try clear c27
        try clear c27b0
        try clear c27b1
        try clear c27b2
        try clear c37
        try clear p37
        try clear q37
        try clear hx37
        try clear c39
        try clear c40
        try clear c40b0
        try clear c41
        try clear c41b0
        try clear c42
        try clear c42b0
        try clear c43
        try clear c43b0
        try clear c43b1
        try clear c43b2
        try clear hcz13_0
        try clear hcz13_1
        try clear hcz13_2
        try clear hcz13_3
        try clear hcz15_0
        try clear hcz15_1
        try clear hcz15_2
        try clear hcz15_3
        try clear hcz17_0
        try clear hcz17_1
        try clear hcz17_2
        try clear hcz17_3
        try clear hcz19_0
        try clear hcz19_1
        try clear hcz19_2
        try clear hcz19_3
        try clear hcz21_0
        try clear hcz21_1
        try clear hcz21_2
        try clear hcz21_3
        try clear hcz23_0
        try clear hcz23_1
        try clear hcz23_2
        try clear hcz23_3
        try clear hfz13_0
        try clear hfz13_1
        try clear hfz13_2
        try clear hfz13_3
        try clear hfz15_0
        try clear hfz15_1
        try clear hfz15_2
        try clear hfz15_3
        try clear hfz17_0
        try clear hfz17_1
        try clear hfz17_2
        try clear hfz17_3
        try clear hfz19_0
        try clear hfz19_1
        try clear hfz19_2
        try clear hfz19_3
        try clear hfz21_0
        try clear hfz21_1
        try clear hfz21_2
        try clear hfz21_3
        try clear hfz23_0
        try clear hfz23_1
        try clear hfz23_2
        try clear hfz23_3
        try clear hx375_0
        try clear p2
        try clear p375
        try clear q375
        obtain ⟨x11_3, x12_3, rfl, HA, HK3, HO_6, HO_7, HO_8, HO_9, HO_11, BK356, HB⟩ := hrel
        rcases gk with _ | k3
        · exact absurd HA.out (by simp [fettlelaw06_DomNearest.l1])
        have H := HA.out
        clear HA
        simp only [fettlelaw06_DomNearest.l1] at H
        by_cases c46 : x12_3 < (t371.length : Int)
        · rw [if_pos c46] at H
          have c46b0 : decide (x12_3 < (t371.length : Int)) = true := decide_eq_true c46
          clear c46
          by_cases c47 : 0 ≤ x10_2
          rotate_left
          · rw [if_neg c47] at H
            exact absurd H (by simp)
          rw [if_pos c47] at H
          have c47b0 : decide (0 ≤ x10_2) = true := decide_eq_true c47
          clear c47
          by_cases c48 : x10_2 < (t362.length : Int)
          rotate_left
          · rw [if_neg c48] at H
            exact absurd H (by simp)
          rw [if_pos c48] at H
          have c48b0 : decide (x10_2 < (t362.length : Int)) = true := decide_eq_true c48
          clear c48
          by_cases c49 : 0 ≤ x12_3
          rotate_left
          · rw [if_neg c49] at H
            exact absurd H (by simp)
          rw [if_pos c49] at H
          have c49b0 : decide (0 ≤ x12_3) = true := decide_eq_true c49
          clear c49
          by_cases c50 : x12_3 < ((rd_L11 t362 x10_2).length : Int)
          rotate_left
          · rw [if_neg c50] at H
            exact absurd H (by simp)
          rw [if_pos c50] at H
          have c50b0 : decide (x12_3 < ((rd_L11 t362 x10_2).length : Int)) = true := decide_eq_true c50
          clear c50
          by_cases c51 : x10_2 < (t371.length : Int)
          rotate_left
          · rw [if_neg c51] at H
            exact absurd H (by simp)
          rw [if_pos c51] at H
          have c51b0 : decide (x10_2 < (t371.length : Int)) = true := decide_eq_true c51
          clear c51
          by_cases c52 : x12_3 < ((rd_L11 t371 x10_2).length : Int)
          rotate_left
          · rw [if_neg c52] at H
            exact absurd H (by simp)
          rw [if_pos c52] at H
          have c52b0 : decide (x12_3 < ((rd_L11 t371 x10_2).length : Int)) = true := decide_eq_true c52
          clear c52
          by_cases c53 : ((rdOf false (rd_L11 t362 x10_2) x12_3) != (rdOf false (rd_L11 t371 x10_2) x12_3)) = true
          · rw [if_pos c53] at H
            have c53b0 : ((rdOf false (rd_L11 t362 x10_2) x12_3) != (rdOf false (rd_L11 t371 x10_2) x12_3)) = true := c53
            (try (have c53b1 : decide ((rdOf false (rd_L11 t362 x10_2) x12_3) = (rdOf false (rd_L11 t371 x10_2) x12_3)) = false := by simpa using c53))
            (try (have c53b2 : ((rdOf false (rd_L11 t362 x10_2) x12_3) == (rdOf false (rd_L11 t371 x10_2) x12_3)) = false := by simpa using c53))
            (try (have c53b3 : ¬ ((rdOf false (rd_L11 t362 x10_2) x12_3) = (rdOf false (rd_L11 t371 x10_2) x12_3)) := by simpa using c53))
            clear c53
            obtain rfl := Option.some.inj H
            have p378 : 0 ≤ (x10_2 : Int) := of_decide_eq_true (by with_reducible assumption)
            have q378 : x10_2 < (t362.length : Int) := of_decide_eq_true (by with_reducible assumption)
            obtain ⟨ad378, A378_0, c378_0, e378, hx378_0, hl378_0, hi378_0⟩ := at_L11 (S_reads' HO_6.out).2.2 x10_2 p378 q378
            obtain rfl : ad375 = ad378 := (by injection e378)
            obtain ⟨ce378, hce378, hMe378, hcc378⟩ := S_get HO_6.out [] x10_2 p378 (by first | exact q378 | exact of_decide_eq_true (by with_reducible assumption) | (have e_ := (S_reads' HO_6.out).1; omega))
            obtain ⟨ve378_0, rfl, ge378_0⟩ := hMe378
            have hv378_0 := hcc378 0 _ rfl
            rw [Nat.add_zero, show ((Kd.slice 4 Kd.bool)).sz = 1 from rfl, Nat.mul_one] at hv378_0
            replace hv378_0 := Option.some.inj (hv378_0.symm.trans hx378_0)
            rw [hv378_0] at ge378_0
            have HL378_0 := Aside0.mk (show Kd.R Kd.bool 4 _ _ _ _ (rd_L11 t362 x10_2) from ge378_0)
            clear hv378_0 ge378_0
            clear hcc378 hce378
            have HR378_0 := Aside0.mk hi378_0
            have HC378_0 := Aside0.mk hl378_0
            clear hi378_0 hl378_0
            replace p378 := eq_true p378
            replace q378 := eq_true q378
            have p379 : 0 ≤ (x12_3 : Int) := of_decide_eq_true (by with_reducible assumption)
            have q379 : x12_3 < ((rd_L11 t362 x10_2).length : Int) := of_decide_eq_true (by with_reducible assumption)
            obtain ⟨ad379, e379, hx379_0⟩ := Kd.at_bool (by repeat with_reducible first | exact HR378_0.out | refine C_alloc ?_ _ | refine C_drewN ?_ _ | refine C_drew ?_) x12_3 p379 q379
            cases e379
            replace p379 := eq_true p379
            replace q379 := eq_true q379
            have p380 : 0 ≤ (x10_2 : Int) := of_decide_eq_true (by with_reducible assumption)
            have q380 : x10_2 < (t371.length : Int) := of_decide_eq_true (by with_reducible assumption)
            obtain ⟨ad380, A380_0, c380_0, e380, hx380_0, hl380_0, hi380_0⟩ := at_L11 (S_reads' HO_9.out).2.2 x10_2 p380 q380
            cases e380
            obtain ⟨ce380, hce380, hMe380, hcc380⟩ := S_get HO_9.out [] x10_2 p380 (by first | exact q380 | exact of_decide_eq_true (by with_reducible assumption) | (have e_ := (S_reads' HO_9.out).1; omega))
            obtain ⟨ve380_0, rfl, ge380_0⟩ := hMe380
            have hv380_0 := hcc380 0 _ rfl
            rw [Nat.add_zero, show ((Kd.slice 4 Kd.bool)).sz = 1 from rfl, Nat.mul_one] at hv380_0
            replace hv380_0 := Option.some.inj (hv380_0.symm.trans hx380_0)
            rw [hv380_0] at ge380_0
            have HL380_0 := Aside0.mk (show Kd.R Kd.bool 4 _ _ _ _ (rd_L11 t371 x10_2) from ge380_0)
            clear hv380_0 ge380_0
            clear hcc380 hce380
            have HR380_0 := Aside0.mk hi380_0
            have HC380_0 := Aside0.mk hl380_0
            clear hi380_0 hl380_0
            replace p380 := eq_true p380
            replace q380 := eq_true q380
            have p381 : 0 ≤ (x12_3 : Int) := of_decide_eq_true (by with_reducible assumption)
            have q381 : x12_3 < ((rd_L11 t371 x10_2).length : Int) := of_decide_eq_true (by with_reducible assumption)
            obtain ⟨ad381, e381, hx381_0⟩ := Kd.at_bool (by repeat with_reducible first | exact HR380_0.out | refine C_alloc ?_ _ | refine C_drewN ?_ _ | refine C_drew ?_) x12_3 p381 q381
            cases e381
            replace p381 := eq_true p381
            replace q381 := eq_true q381
            go_wp2
            repeat (go_quiet (fail); try go_wp2)
            go_ret
            exact ⟨by first | rfl | (simp [errW_none, errW_some] <;> rfl) | (simp [*, errW_none, errW_some] <;> rfl), by repeat (first | (with_reducible first | exact HB.out | apply below_alloc | apply pw_below_drewN | apply below_drew1 | refine below_set ?_ GE356.out) | exact HB.out)⟩
          rw [if_neg c53] at H
          have c53b0 : ((rdOf false (rd_L11 t362 x10_2) x12_3) != (rdOf false (rd_L11 t371 x10_2) x12_3)) = false := by simpa using c53
          (try (have c53b1 : decide ((rdOf false (rd_L11 t362 x10_2) x12_3) = (rdOf false (rd_L11 t371 x10_2) x12_3)) = true := by simpa using c53))
          (try (have c53b2 : ((rdOf false (rd_L11 t362 x10_2) x12_3) == (rdOf false (rd_L11 t371 x10_2) x12_3)) = true := by simpa using c53))
          clear c53
          by_cases c54 : x12_3 < (t368.length : Int)
          rotate_left
          · rw [if_neg c54] at H
            exact absurd H (by simp)
          rw [if_pos c54] at H
          have c54b0 : decide (x12_3 < (t368.length : Int)) = true := decide_eq_true c54
          clear c54
          by_cases c55 : (rd t368 x12_3) = x10_2
          · rw [if_pos c55] at H
            have c55b0 : ((rd t368 x12_3) == x10_2) = true := beq_iff_eq.mpr c55
            have c55b1 : ((rd t368 x12_3) != x10_2) = false := bne_eq_false_iff_eq.mpr c55
            clear c55
            by_cases c56 : x11_3.length < 17592186044416
            rotate_left
            · rw [if_neg c56] at H
              exact absurd H (by simp)
            rw [if_pos c56] at H
            have LMc56 := Aside0.mk c56
            clear c56
            obtain ⟨y383, hy383⟩ : ∃ y_ : List Int, y_ = (x11_3 ++ [x12_3]) := ⟨_, rfl⟩
            replace H : (fettlelaw06_DomNearest.l1 k3 t357 t362 t365 t368 t371 x10_2 y383 (wrap64 (x12_3 + 1))) = some r := by first | (rw [hy383]; with_reducible exact H) | (have H2_ := (Option.bind_some _ _).symm.trans H; rw [hy383]; with_reducible exact H2_) | exact H
            have Ny383 := Aside0.mk hy383
            clear hy383
            have H' := Aside0.mk H
            clear H
            have p378 : 0 ≤ (x10_2 : Int) := of_decide_eq_true (by with_reducible assumption)
            have q378 : x10_2 < (t362.length : Int) := of_decide_eq_true (by with_reducible assumption)
            obtain ⟨ad378, A378_0, c378_0, e378, hx378_0, hl378_0, hi378_0⟩ := at_L11 (S_reads' HO_6.out).2.2 x10_2 p378 q378
            obtain rfl : ad375 = ad378 := (by injection e378)
            obtain ⟨ce378, hce378, hMe378, hcc378⟩ := S_get HO_6.out [] x10_2 p378 (by first | exact q378 | exact of_decide_eq_true (by with_reducible assumption) | (have e_ := (S_reads' HO_6.out).1; omega))
            obtain ⟨ve378_0, rfl, ge378_0⟩ := hMe378
            have hv378_0 := hcc378 0 _ rfl
            rw [Nat.add_zero, show ((Kd.slice 4 Kd.bool)).sz = 1 from rfl, Nat.mul_one] at hv378_0
            replace hv378_0 := Option.some.inj (hv378_0.symm.trans hx378_0)
            rw [hv378_0] at ge378_0
            have HL378_0 := Aside0.mk (show Kd.R Kd.bool 4 _ _ _ _ (rd_L11 t362 x10_2) from ge378_0)
            clear hv378_0 ge378_0
            clear hcc378 hce378
            have HR378_0 := Aside0.mk hi378_0
            have HC378_0 := Aside0.mk hl378_0
            clear hi378_0 hl378_0
            replace p378 := eq_true p378
            replace q378 := eq_true q378
            have p379 : 0 ≤ (x12_3 : Int) := of_decide_eq_true (by with_reducible assumption)
            have q379 : x12_3 < ((rd_L11 t362 x10_2).length : Int) := of_decide_eq_true (by with_reducible assumption)
            obtain ⟨ad379, e379, hx379_0⟩ := Kd.at_bool (by repeat with_reducible first | exact HR378_0.out | refine C_alloc ?_ _ | refine C_drewN ?_ _ | refine C_drew ?_) x12_3 p379 q379
            cases e379
            replace p379 := eq_true p379
            replace q379 := eq_true q379
            have p380 : 0 ≤ (x10_2 : Int) := of_decide_eq_true (by with_reducible assumption)
            have q380 : x10_2 < (t371.length : Int) := of_decide_eq_true (by with_reducible assumption)
            obtain ⟨ad380, A380_0, c380_0, e380, hx380_0, hl380_0, hi380_0⟩ := at_L11 (S_reads' HO_9.out).2.2 x10_2 p380 q380
            cases e380
            obtain ⟨ce380, hce380, hMe380, hcc380⟩ := S_get HO_9.out [] x10_2 p380 (by first | exact q380 | exact of_decide_eq_true (by with_reducible assumption) | (have e_ := (S_reads' HO_9.out).1; omega))
            obtain ⟨ve380_0, rfl, ge380_0⟩ := hMe380
            have hv380_0 := hcc380 0 _ rfl
            rw [Nat.add_zero, show ((Kd.slice 4 Kd.bool)).sz = 1 from rfl, Nat.mul_one] at hv380_0
            replace hv380_0 := Option.some.inj (hv380_0.symm.trans hx380_0)
            rw [hv380_0] at ge380_0
            have HL380_0 := Aside0.mk (show Kd.R Kd.bool 4 _ _ _ _ (rd_L11 t371 x10_2) from ge380_0)
            clear hv380_0 ge380_0
            clear hcc380 hce380
            have HR380_0 := Aside0.mk hi380_0
            have HC380_0 := Aside0.mk hl380_0
            clear hi380_0 hl380_0
            replace p380 := eq_true p380
            replace q380 := eq_true q380
            have p381 : 0 ≤ (x12_3 : Int) := of_decide_eq_true (by with_reducible assumption)
            have q381 : x12_3 < ((rd_L11 t371 x10_2).length : Int) := of_decide_eq_true (by with_reducible assumption)
            obtain ⟨ad381, e381, hx381_0⟩ := Kd.at_bool (by repeat with_reducible first | exact HR380_0.out | refine C_alloc ?_ _ | refine C_drewN ?_ _ | refine C_drew ?_) x12_3 p381 q381
            cases e381
            replace p381 := eq_true p381
            replace q381 := eq_true q381
            obtain ⟨Ao57, co57, eo57⟩ := Kd.R_slice HO_8.out
            subst eo57
            have p382 : 0 ≤ (x12_3 : Int) := of_decide_eq_true (by with_reducible assumption)
            have q382 : x12_3 < (t368.length : Int) := of_decide_eq_true (by with_reducible assumption)
            obtain ⟨ad382, e382, hx382_0⟩ := Kd.at_int (R_reads' HO_8.out).2.2 x12_3 p382 q382
            cases e382
            replace p382 := eq_true p382
            replace q382 := eq_true q382
            go_wp2_with (first | ((with_reducible refine gate_builtin (b := .append) (xs := #[.tmp 88, .tmp 90]) rfl ?_); (try (refine gate_guard (by rfl) ?_; dsimp only)); at_builtin; refine Kd.R_append (Kd.int .i64) (w0 := w) w.heap.size rfl (.tmp 88) (.tmp 90) 22 3 (.int .i64 0) 8 rfl Try.underlying22 info3 rfl (by decide) (by omega) u11 x11_3 x12_3 [.int .i64 x12_3] (fun k_ => some k_ ≠ (.slice (some ad382) t368.length co57 : Value).ownBlock) (fun _ => False) rfl rfl ?aP (fun _ hk => hk.elim) ?aF ?aO ?aB ?aS ?aL ?_; (case aP => exact rfl); (case aB => exact (by repeat with_reducible first | exact HB.out | apply below_alloc | apply pw_below_drewN | apply below_drew1 | refine below_set ?_ GE356.out)); (case aF => exact (fun k_ hk => Kd.fresh' (R_lt (by (with_reducible repeat (first | apply R_alloc | apply R_drewN | apply R_drew)); exact HO_8.out)) k_ hk)); (case aO => exact (by (with_reducible repeat (first | apply R_alloc | apply R_drewN | apply R_drew)); exact HO_11.out)); (case aS => exact (below_size (by repeat with_reducible first | exact HB.out | apply below_alloc | apply pw_below_drewN | apply below_drew1 | refine below_set ?_ GE356.out))); (case aL => have := LMc56.out; omega); intro v384 w58 ho hb hg hat; rw [← Ny383.out] at ho; have n0_ := Aside0.mk (Kd.S_over' (by (with_reducible repeat (first | apply S_alloc | apply S_drewN | apply S_drew)); exact HO_6.out) (Kd.R_typed (by (with_reducible repeat (first | apply R_alloc | apply R_drewN | apply R_drew)); exact HO_11.out)) (by decide) hg); have n1_ := Aside0.mk (Kd.S_after (ok := (fun k_ => some k_ ≠ (.slice (some ad382) t368.length co57 : Value).ownBlock)) (by (with_reducible repeat (first | apply S_alloc | apply S_drewN | apply S_drew)); exact HO_7.out) hg hat); have n2_ := Aside0.mk (Kd.R_after (ok := (fun _ => True)) (by (with_reducible repeat (first | apply R_alloc | apply R_drewN | apply R_drew)); exact R_mono HO_8.out (fun _ hk => ⟨trivial, hk⟩)) hg hat); have n3_ := Aside0.mk (Kd.S_over' (by (with_reducible repeat (first | apply S_alloc | apply S_drewN | apply S_drew)); exact HO_9.out) (Kd.R_typed (by (with_reducible repeat (first | apply R_alloc | apply R_drewN | apply R_drew)); exact HO_11.out)) (by decide) hg); have n4_ := Aside0.mk (blk_grown (g := gb356) (o := .cells #[.int .i64 a0_0, .int .i64 a0_1, .slice A0_2 l0_2.length c0_2, .slice A0_3 l0_3.length c0_3] 25 (0, 0)) (by (with_reducible repeat (first | refine blk_drewN ?_ _ | refine blk_drew ?_ | refine blk_alloc ?_ _)); exact BK356.out) hg (Kd.R_ne HO_11.out BK356.out (by decide))); have n5_ := Aside0.mk (Kd.R_over' (by (with_reducible repeat (first | apply R_alloc | apply R_drewN | apply R_drew)); exact HL378_0.out) (Kd.R_typed (by (with_reducible repeat (first | apply R_alloc | apply R_drewN | apply R_drew)); exact HO_11.out)) (by decide) hg); have n6_ := Aside0.mk (Kd.R_over' (by (with_reducible repeat (first | apply R_alloc | apply R_drewN | apply R_drew)); exact HL380_0.out) (Kd.R_typed (by (with_reducible repeat (first | apply R_alloc | apply R_drewN | apply R_drew)); exact HO_11.out)) (by decide) hg); have n7_ := Aside0.mk (hb); have n8_ := Aside0.mk (ho); clear HO_6; clear HO_7; clear HO_8; clear HO_9; clear BK356; clear HL378_0; clear HL380_0; clear HB; clear HO_11; have HO_6 := n0_; have HO_7 := n1_; have HO_8 := n2_; have HO_9 := n3_; have BK356 := n4_; have HL378_0 := n5_; have HL380_0 := n6_; have HB := n7_; have HO385 := n8_; clear n0_ n1_ n2_ n3_ n4_ n5_ n6_ n7_ n8_; clear ho hb hg hat))
            repeat (go_quiet (first | ((with_reducible refine gate_builtin (b := .append) (xs := #[.tmp 88, .tmp 90]) rfl ?_); (try (refine gate_guard (by rfl) ?_; dsimp only)); at_builtin; refine Kd.R_append (Kd.int .i64) (w0 := w) w.heap.size rfl (.tmp 88) (.tmp 90) 22 3 (.int .i64 0) 8 rfl Try.underlying22 info3 rfl (by decide) (by omega) u11 x11_3 x12_3 [.int .i64 x12_3] (fun k_ => some k_ ≠ (.slice (some ad382) t368.length co57 : Value).ownBlock) (fun _ => False) rfl rfl ?aP (fun _ hk => hk.elim) ?aF ?aO ?aB ?aS ?aL ?_; (case aP => exact rfl); (case aB => exact (by repeat with_reducible first | exact HB.out | apply below_alloc | apply pw_below_drewN | apply below_drew1 | refine below_set ?_ GE356.out)); (case aF => exact (fun k_ hk => Kd.fresh' (R_lt (by (with_reducible repeat (first | apply R_alloc | apply R_drewN | apply R_drew)); exact HO_8.out)) k_ hk)); (case aO => exact (by (with_reducible repeat (first | apply R_alloc | apply R_drewN | apply R_drew)); exact HO_11.out)); (case aS => exact (below_size (by repeat with_reducible first | exact HB.out | apply below_alloc | apply pw_below_drewN | apply below_drew1 | refine below_set ?_ GE356.out))); (case aL => have := LMc56.out; omega); intro v384 w58 ho hb hg hat; rw [← Ny383.out] at ho; have n0_ := Aside0.mk (Kd.S_over' (by (with_reducible repeat (first | apply S_alloc | apply S_drewN | apply S_drew)); exact HO_6.out) (Kd.R_typed (by (with_reducible repeat (first | apply R_alloc | apply R_drewN | apply R_drew)); exact HO_11.out)) (by decide) hg); have n1_ := Aside0.mk (Kd.S_after (ok := (fun k_ => some k_ ≠ (.slice (some ad382) t368.length co57 : Value).ownBlock)) (by (with_reducible repeat (first | apply S_alloc | apply S_drewN | apply S_drew)); exact HO_7.out) hg hat); have n2_ := Aside0.mk (Kd.R_after (ok := (fun _ => True)) (by (with_reducible repeat (first | apply R_alloc | apply R_drewN | apply R_drew)); exact R_mono HO_8.out (fun _ hk => ⟨trivial, hk⟩)) hg hat); have n3_ := Aside0.mk (Kd.S_over' (by (with_reducible repeat (first | apply S_alloc | apply S_drewN | apply S_drew)); exact HO_9.out) (Kd.R_typed (by (with_reducible repeat (first | apply R_alloc | apply R_drewN | apply R_drew)); exact HO_11.out)) (by decide) hg); have n4_ := Aside0.mk (blk_grown (g := gb356) (o := .cells #[.int .i64 a0_0, .int .i64 a0_1, .slice A0_2 l0_2.length c0_2, .slice A0_3 l0_3.length c0_3] 25 (0, 0)) (by (with_reducible repeat (first | refine blk_drewN ?_ _ | refine blk_drew ?_ | refine blk_alloc ?_ _)); exact BK356.out) hg (Kd.R_ne HO_11.out BK356.out (by decide))); have n5_ := Aside0.mk (Kd.R_over' (by (with_reducible repeat (first | apply R_alloc | apply R_drewN | apply R_drew)); exact HL378_0.out) (Kd.R_typed (by (with_reducible repeat (first | apply R_alloc | apply R_drewN | apply R_drew)); exact HO_11.out)) (by decide) hg); have n6_ := Aside0.mk (Kd.R_over' (by (with_reducible repeat (first | apply R_alloc | apply R_drewN | apply R_drew)); exact HL380_0.out) (Kd.R_typed (by (with_reducible repeat (first | apply R_alloc | apply R_drewN | apply R_drew)); exact HO_11.out)) (by decide) hg); have n7_ := Aside0.mk (hb); have n8_ := Aside0.mk (ho); clear HO_6; clear HO_7; clear HO_8; clear HO_9; clear BK356; clear HL378_0; clear HL380_0; clear HB; clear HO_11; have HO_6 := n0_; have HO_7 := n1_; have HO_8 := n2_; have HO_9 := n3_; have BK356 := n4_; have HL378_0 := n5_; have HL380_0 := n6_; have HB := n7_; have HO385 := n8_; clear n0_ n1_ n2_ n3_ n4_ n5_ n6_ n7_ n8_; clear ho hb hg hat)); try go_wp2_with (first | ((with_reducible refine gate_builtin (b := .append) (xs := #[.tmp 88, .tmp 90]) rfl ?_); (try (refine gate_guard (by rfl) ?_; dsimp only)); at_builtin; refine Kd.R_append (Kd.int .i64) (w0 := w) w.heap.size rfl (.tmp 88) (.tmp 90) 22 3 (.int .i64 0) 8 rfl Try.underlying22 info3 rfl (by decide) (by omega) u11 x11_3 x12_3 [.int .i64 x12_3] (fun k_ => some k_ ≠ (.slice (some ad382) t368.length co57 : Value).ownBlock) (fun _ => False) rfl rfl ?aP (fun _ hk => hk.elim) ?aF ?aO ?aB ?aS ?aL ?_; (case aP => exact rfl); (case aB => exact (by repeat with_reducible first | exact HB.out | apply below_alloc | apply pw_below_drewN | apply below_drew1 | refine below_set ?_ GE356.out)); (case aF => exact (fun k_ hk => Kd.fresh' (R_lt (by (with_reducible repeat (first | apply R_alloc | apply R_drewN | apply R_drew)); exact HO_8.out)) k_ hk)); (case aO => exact (by (with_reducible repeat (first | apply R_alloc | apply R_drewN | apply R_drew)); exact HO_11.out)); (case aS => exact (below_size (by repeat with_reducible first | exact HB.out | apply below_alloc | apply pw_below_drewN | apply below_drew1 | refine below_set ?_ GE356.out))); (case aL => have := LMc56.out; omega); intro v384 w58 ho hb hg hat; rw [← Ny383.out] at ho; have n0_ := Aside0.mk (Kd.S_over' (by (with_reducible repeat (first | apply S_alloc | apply S_drewN | apply S_drew)); exact HO_6.out) (Kd.R_typed (by (with_reducible repeat (first | apply R_alloc | apply R_drewN | apply R_drew)); exact HO_11.out)) (by decide) hg); have n1_ := Aside0.mk (Kd.S_after (ok := (fun k_ => some k_ ≠ (.slice (some ad382) t368.length co57 : Value).ownBlock)) (by (with_reducible repeat (first | apply S_alloc | apply S_drewN | apply S_drew)); exact HO_7.out) hg hat); have n2_ := Aside0.mk (Kd.R_after (ok := (fun _ => True)) (by (with_reducible repeat (first | apply R_alloc | apply R_drewN | apply R_drew)); exact R_mono HO_8.out (fun _ hk => ⟨trivial, hk⟩)) hg hat); have n3_ := Aside0.mk (Kd.S_over' (by (with_reducible repeat (first | apply S_alloc | apply S_drewN | apply S_drew)); exact HO_9.out) (Kd.R_typed (by (with_reducible repeat (first | apply R_alloc | apply R_drewN | apply R_drew)); exact HO_11.out)) (by decide) hg); have n4_ := Aside0.mk (blk_grown (g := gb356) (o := .cells #[.int .i64 a0_0, .int .i64 a0_1, .slice A0_2 l0_2.length c0_2, .slice A0_3 l0_3.length c0_3] 25 (0, 0)) (by (with_reducible repeat (first | refine blk_drewN ?_ _ | refine blk_drew ?_ | refine blk_alloc ?_ _)); exact BK356.out) hg (Kd.R_ne HO_11.out BK356.out (by decide))); have n5_ := Aside0.mk (Kd.R_over' (by (with_reducible repeat (first | apply R_alloc | apply R_drewN | apply R_drew)); exact HL378_0.out) (Kd.R_typed (by (with_reducible repeat (first | apply R_alloc | apply R_drewN | apply R_drew)); exact HO_11.out)) (by decide) hg); have n6_ := Aside0.mk (Kd.R_over' (by (with_reducible repeat (first | apply R_alloc | apply R_drewN | apply R_drew)); exact HL380_0.out) (Kd.R_typed (by (with_reducible repeat (first | apply R_alloc | apply R_drewN | apply R_drew)); exact HO_11.out)) (by decide) hg); have n7_ := Aside0.mk (hb); have n8_ := Aside0.mk (ho); clear HO_6; clear HO_7; clear HO_8; clear HO_9; clear BK356; clear HL378_0; clear HL380_0; clear HB; clear HO_11; have HO_6 := n0_; have HO_7 := n1_; have HO_8 := n2_; have HO_9 := n3_; have BK356 := n4_; have HL378_0 := n5_; have HL380_0 := n6_; have HB := n7_; have HO385 := n8_; clear n0_ n1_ n2_ n3_ n4_ n5_ n6_ n7_ n8_; clear ho hb hg hat)))
            go_roundg k3
            case measure => have := HJ9.out; have := HK2.out; have := HK3.out; omega
            case rel => exact ⟨(y383), (wrap64 (x12_3 + 1)), (by first | rfl | (simp; done) | (simp [*]; done)), H', ⟨by have := HJ9.out; have := HK2.out; have := HK3.out; omega⟩, ⟨by (with_reducible repeat (first | apply S_alloc | apply S_drewN | apply S_drew)); exact HO_6.out⟩, ⟨by (with_reducible repeat (first | apply S_alloc | apply S_drewN | apply S_drew)); exact HO_7.out⟩, ⟨by (with_reducible repeat (first | apply R_alloc | apply R_drewN | apply R_drew)); exact R_mono HO_8.out (fun _ hk => hk.2)⟩, ⟨by (with_reducible repeat (first | apply S_alloc | apply S_drewN | apply S_drew)); exact HO_9.out⟩, ⟨by (with_reducible repeat (first | apply R_alloc | apply R_drewN | apply R_drew)); exact HO385.out⟩, ⟨by (with_reducible repeat (first | refine blk_drewN ?_ _ | refine blk_drew ?_ | refine blk_alloc ?_ _)); exact BK356.out⟩, ⟨by repeat (first | (with_reducible first | exact HB.out | apply below_alloc | apply pw_below_drewN | apply below_drew1 | refine below_set ?_ GE356.out) | exact HB.out)⟩⟩
          rw [if_neg c55] at H
          have c55b0 : ((rd t368 x12_3) == x10_2) = false := beq_eq_false_iff_ne.mpr c55
          have c55b1 : ((rd t368 x12_3) != x10_2) = true := bne_iff_ne.mpr c55
          have H' := Aside0.mk H
          clear H
          have p378 : 0 ≤ (x10_2 : Int) := of_decide_eq_true (by with_reducible assumption)
          have q378 : x10_2 < (t362.length : Int) := of_decide_eq_true (by with_reducible assumption)
          obtain ⟨ad378, A378_0, c378_0, e378, hx378_0, hl378_0, hi378_0⟩ := at_L11 (S_reads' HO_6.out).2.2 x10_2 p378 q378
          obtain rfl : ad375 = ad378 := (by injection e378)
          obtain ⟨ce378, hce378, hMe378, hcc378⟩ := S_get HO_6.out [] x10_2 p378 (by first | exact q378 | exact of_decide_eq_true (by with_reducible assumption) | (have e_ := (S_reads' HO_6.out).1; omega))
          obtain ⟨ve378_0, rfl, ge378_0⟩ := hMe378
          have hv378_0 := hcc378 0 _ rfl
          rw [Nat.add_zero, show ((Kd.slice 4 Kd.bool)).sz = 1 from rfl, Nat.mul_one] at hv378_0
          replace hv378_0 := Option.some.inj (hv378_0.symm.trans hx378_0)
          rw [hv378_0] at ge378_0
          have HL378_0 := Aside0.mk (show Kd.R Kd.bool 4 _ _ _ _ (rd_L11 t362 x10_2) from ge378_0)
          clear hv378_0 ge378_0
          clear hcc378 hce378
          have HR378_0 := Aside0.mk hi378_0
          have HC378_0 := Aside0.mk hl378_0
          clear hi378_0 hl378_0
          replace p378 := eq_true p378
          replace q378 := eq_true q378
          have p379 : 0 ≤ (x12_3 : Int) := of_decide_eq_true (by with_reducible assumption)
          have q379 : x12_3 < ((rd_L11 t362 x10_2).length : Int) := of_decide_eq_true (by with_reducible assumption)
          obtain ⟨ad379, e379, hx379_0⟩ := Kd.at_bool (by repeat with_reducible first | exact HR378_0.out | refine C_alloc ?_ _ | refine C_drewN ?_ _ | refine C_drew ?_) x12_3 p379 q379
          cases e379
          replace p379 := eq_true p379
          replace q379 := eq_true q379
          have p380 : 0 ≤ (x10_2 : Int) := of_decide_eq_true (by with_reducible assumption)
          have q380 : x10_2 < (t371.length : Int) := of_decide_eq_true (by with_reducible assumption)
          obtain ⟨ad380, A380_0, c380_0, e380, hx380_0, hl380_0, hi380_0⟩ := at_L11 (S_reads' HO_9.out).2.2 x10_2 p380 q380
          cases e380
          obtain ⟨ce380, hce380, hMe380, hcc380⟩ := S_get HO_9.out [] x10_2 p380 (by first | exact q380 | exact of_decide_eq_true (by with_reducible assumption) | (have e_ := (S_reads' HO_9.out).1; omega))
          obtain ⟨ve380_0, rfl, ge380_0⟩ := hMe380
          have hv380_0 := hcc380 0 _ rfl
          rw [Nat.add_zero, show ((Kd.slice 4 Kd.bool)).sz = 1 from rfl, Nat.mul_one] at hv380_0
          replace hv380_0 := Option.some.inj (hv380_0.symm.trans hx380_0)
          rw [hv380_0] at ge380_0
          have HL380_0 := Aside0.mk (show Kd.R Kd.bool 4 _ _ _ _ (rd_L11 t371 x10_2) from ge380_0)
          clear hv380_0 ge380_0
          clear hcc380 hce380
          have HR380_0 := Aside0.mk hi380_0
          have HC380_0 := Aside0.mk hl380_0
          clear hi380_0 hl380_0
          replace p380 := eq_true p380
          replace q380 := eq_true q380
          have p381 : 0 ≤ (x12_3 : Int) := of_decide_eq_true (by with_reducible assumption)
          have q381 : x12_3 < ((rd_L11 t371 x10_2).length : Int) := of_decide_eq_true (by with_reducible assumption)
          obtain ⟨ad381, e381, hx381_0⟩ := Kd.at_bool (by repeat with_reducible first | exact HR380_0.out | refine C_alloc ?_ _ | refine C_drewN ?_ _ | refine C_drew ?_) x12_3 p381 q381
          cases e381
          replace p381 := eq_true p381
          replace q381 := eq_true q381
          obtain ⟨Ao59, co59, eo59⟩ := Kd.R_slice HO_8.out
          subst eo59
          have p382 : 0 ≤ (x12_3 : Int) := of_decide_eq_true (by with_reducible assumption)
          have q382 : x12_3 < (t368.length : Int) := of_decide_eq_true (by with_reducible assumption)
          obtain ⟨ad382, e382, hx382_0⟩ := Kd.at_int (R_reads' HO_8.out).2.2 x12_3 p382 q382
          cases e382
          replace p382 := eq_true p382
          replace q382 := eq_true q382
          go_wp2
          repeat (go_quiet (fail); try go_wp2)
          go_roundg k3
          case measure => have := HJ9.out; have := HK2.out; have := HK3.out; omega
          case rel => exact ⟨(x11_3), (wrap64 (x12_3 + 1)), (by first | rfl | (simp; done) | (simp [*]; done)), H', ⟨by have := HJ9.out; have := HK2.out; have := HK3.out; omega⟩, ⟨by (with_reducible repeat (first | apply S_alloc | apply S_drewN | apply S_drew)); exact HO_6.out⟩, ⟨by (with_reducible repeat (first | apply S_alloc | apply S_drewN | apply S_drew)); exact HO_7.out⟩, ⟨by (with_reducible repeat (first | apply R_alloc | apply R_drewN | apply R_drew)); exact HO_8.out⟩, ⟨by (with_reducible repeat (first | apply S_alloc | apply S_drewN | apply S_drew)); exact HO_9.out⟩, ⟨by (with_reducible repeat (first | apply R_alloc | apply R_drewN | apply R_drew)); exact HO_11.out⟩, ⟨by (with_reducible repeat (first | refine blk_drewN ?_ _ | refine blk_drew ?_ | refine blk_alloc ?_ _)); exact BK356.out⟩, ⟨by repeat (first | (with_reducible first | exact HB.out | apply below_alloc | apply pw_below_drewN | apply below_drew1 | refine below_set ?_ GE356.out) | exact HB.out)⟩⟩
        rw [if_neg c46] at H
        have c46b0 : decide (x12_3 < (t371.length : Int)) = false := decide_eq_false c46
        clear c46
        by_cases c60 : 0 ≤ x10_2
        rotate_left
        · rw [if_neg c60] at H
          exact absurd H (by simp)
        rw [if_pos c60] at H
        have c60b0 : decide (0 ≤ x10_2) = true := decide_eq_true c60
        clear c60
        by_cases c61 : x10_2 < (t365.length : Int)
        rotate_left
        · rw [if_neg c61] at H
          exact absurd H (by simp)
        rw [if_pos c61] at H
        have c61b0 : decide (x10_2 < (t365.length : Int)) = true := decide_eq_true c61
        clear c61
        replace H := Option.bind_eq_some_iff.mp H
        obtain ⟨t377, A620, H⟩ := H
        replace H : (if t377 = true then (fettlelaw06_DomNearest.l0 k3 t357 t362 t365 t368 t371 (wrap64 (x10_2 + 1))) else (some false)) = some r := H
        have A62 := Aside0.mk A620
        clear A620
        by_cases c63 : t377 = true
        · subst c63
          have H1 : (fettlelaw06_DomNearest.l0 k3 t357 t362 t365 t368 t371 (wrap64 (x10_2 + 1))) = some r := by rw [if_pos rfl] at H; exact H
          clear H
          have H := H1
          clear H1
          have H' := Aside0.mk H
          clear H
          obtain ⟨Ao64, co64, eo64⟩ := Kd.S_slice HO_7.out
          subst eo64
          have p376 : 0 ≤ (x10_2 : Int) := of_decide_eq_true (by with_reducible assumption)
          have q376 : x10_2 < (t365.length : Int) := of_decide_eq_true (by with_reducible assumption)
          obtain ⟨ad376, A376_0, c376_0, e376, hx376_0, hl376_0, hi376_0⟩ := at_L1 (S_reads' HO_7.out).2.2 x10_2 p376 q376
          cases e376
          obtain ⟨ce376, hce376, hMe376, hcc376⟩ := S_get HO_7.out [] x10_2 p376 (by first | exact q376 | exact of_decide_eq_true (by with_reducible assumption) | (have e_ := (S_reads' HO_7.out).1; omega))
          obtain ⟨ve376_0, rfl, ge376_0⟩ := hMe376
          have hv376_0 := hcc376 0 _ rfl
          rw [Nat.add_zero, show ((Kd.slice 3 (Kd.int .i64))).sz = 1 from rfl, Nat.mul_one] at hv376_0
          replace hv376_0 := Option.some.inj (hv376_0.symm.trans hx376_0)
          rw [hv376_0] at ge376_0
          have HL376_0 := Aside0.mk (show Kd.R (Kd.int .i64) 3 _ _ _ _ (rd_L1 t365 x10_2) from ge376_0)
          clear hv376_0 ge376_0
          clear hcc376 hce376
          have HR376_0 := Aside0.mk hi376_0
          have HC376_0 := Aside0.mk hl376_0
          clear hi376_0 hl376_0
          replace p376 := eq_true p376
          replace q376 := eq_true q376
          obtain ⟨Ao65, co65, eo65⟩ := Kd.R_slice HO_11.out
          subst eo65
          go_wp2_with (first | (go_at_call 15; (with_reducible refine (fettlelaw05_Ints.calls k3 _ _ (rd_L1 t365 x10_2) _ _ x11_3 true _ ?side1 ?side2 ?side3 ?side4 A62.out).mono ?_); (case side1 => repeat (first | exact (by repeat with_reducible first | exact HR376_0.out | refine C_alloc ?_ _ | refine C_drewN ?_ _ | refine C_drew ?_) | (with_reducible refine C_alloc ?_ _) | (with_reducible refine C_drewN ?_ _) | (with_reducible refine C_drew ?_))); (case side2 => exact HC376_0.out); (case side3 => repeat (first | exact (R_reads' HO_11.out).2.2 | (with_reducible refine C_alloc ?_ _) | (with_reducible refine C_drewN ?_ _) | (with_reducible refine C_drew ?_))); (case side4 => exact (R_reads' HO_11.out).2.1); rintro e w' ⟨rfl, ⟨nd, rfl⟩⟩; (try first | exact ⟨rfl, _, World.drewN_drewN _ _ _⟩ | exact ⟨rfl, _, Eq.trans (World.drewN_drewN _ _ _) (congrArg (World.drewN _) (Nat.add_assoc _ _ _))⟩)))
          repeat (go_quiet (first | (go_at_call 15; (with_reducible refine (fettlelaw05_Ints.calls k3 _ _ (rd_L1 t365 x10_2) _ _ x11_3 true _ ?side1 ?side2 ?side3 ?side4 A62.out).mono ?_); (case side1 => repeat (first | exact (by repeat with_reducible first | exact HR376_0.out | refine C_alloc ?_ _ | refine C_drewN ?_ _ | refine C_drew ?_) | (with_reducible refine C_alloc ?_ _) | (with_reducible refine C_drewN ?_ _) | (with_reducible refine C_drew ?_))); (case side2 => exact HC376_0.out); (case side3 => repeat (first | exact (R_reads' HO_11.out).2.2 | (with_reducible refine C_alloc ?_ _) | (with_reducible refine C_drewN ?_ _) | (with_reducible refine C_drew ?_))); (case side4 => exact (R_reads' HO_11.out).2.1); rintro e w' ⟨rfl, ⟨nd, rfl⟩⟩; (try first | exact ⟨rfl, _, World.drewN_drewN _ _ _⟩ | exact ⟨rfl, _, Eq.trans (World.drewN_drewN _ _ _) (congrArg (World.drewN _) (Nat.add_assoc _ _ _))⟩))); try go_wp2_with (first | (go_at_call 15; (with_reducible refine (fettlelaw05_Ints.calls k3 _ _ (rd_L1 t365 x10_2) _ _ x11_3 true _ ?side1 ?side2 ?side3 ?side4 A62.out).mono ?_); (case side1 => repeat (first | exact (by repeat with_reducible first | exact HR376_0.out | refine C_alloc ?_ _ | refine C_drewN ?_ _ | refine C_drew ?_) | (with_reducible refine C_alloc ?_ _) | (with_reducible refine C_drewN ?_ _) | (with_reducible refine C_drew ?_))); (case side2 => exact HC376_0.out); (case side3 => repeat (first | exact (R_reads' HO_11.out).2.2 | (with_reducible refine C_alloc ?_ _) | (with_reducible refine C_drewN ?_ _) | (with_reducible refine C_drew ?_))); (case side4 => exact (R_reads' HO_11.out).2.1); rintro e w' ⟨rfl, ⟨nd, rfl⟩⟩; (try first | exact ⟨rfl, _, World.drewN_drewN _ _ _⟩ | exact ⟨rfl, _, Eq.trans (World.drewN_drewN _ _ _) (congrArg (World.drewN _) (Nat.add_assoc _ _ _))⟩))))
          go_roundg k3
          case measure => have := HJ9.out; have := HK2.out; have := HK3.out; omega
          case rel => exact ⟨(wrap64 (x10_2 + 1)), (by first | rfl | (simp; done) | (simp [*]; done)), H', ⟨by have := HJ9.out; have := HK2.out; have := HK3.out; omega⟩, ⟨by (with_reducible repeat (first | apply S_alloc | apply S_drewN | apply S_drew)); exact HO_6.out⟩, ⟨by (with_reducible repeat (first | apply S_alloc | apply S_drewN | apply S_drew)); exact S_mono HO_7.out (fun _ hk => hk.1)⟩, ⟨by (with_reducible repeat (first | apply R_alloc | apply R_drewN | apply R_drew)); exact R_mono HO_8.out (fun _ hk => trivial)⟩, ⟨by (with_reducible repeat (first | apply S_alloc | apply S_drewN | apply S_drew)); exact HO_9.out⟩, ⟨by (with_reducible repeat (first | refine blk_drewN ?_ _ | refine blk_drew ?_ | refine blk_alloc ?_ _)); exact BK356.out⟩, ⟨by repeat (first | (with_reducible first | exact HB.out | apply below_alloc | apply pw_below_drewN | apply below_drew1 | refine below_set ?_ GE356.out) | exact HB.out)⟩⟩
        replace c63 := Bool.eq_false_iff.mpr c63
        subst c63
        have H1 : (some false) = some r := by rw [if_neg (show ¬ (false = true) by decide)] at H; exact H
        clear H
        have H := H1
        clear H1
        obtain rfl := Option.some.inj H
        obtain ⟨Ao66, co66, eo66⟩ := Kd.S_slice HO_7.out
        subst eo66
        have p376 : 0 ≤ (x10_2 : Int) := of_decide_eq_true (by with_reducible assumption)
        have q376 : x10_2 < (t365.length : Int) := of_decide_eq_true (by with_reducible assumption)
        obtain ⟨ad376, A376_0, c376_0, e376, hx376_0, hl376_0, hi376_0⟩ := at_L1 (S_reads' HO_7.out).2.2 x10_2 p376 q376
        cases e376
        obtain ⟨ce376, hce376, hMe376, hcc376⟩ := S_get HO_7.out [] x10_2 p376 (by first | exact q376 | exact of_decide_eq_true (by with_reducible assumption) | (have e_ := (S_reads' HO_7.out).1; omega))
        obtain ⟨ve376_0, rfl, ge376_0⟩ := hMe376
        have hv376_0 := hcc376 0 _ rfl
        rw [Nat.add_zero, show ((Kd.slice 3 (Kd.int .i64))).sz = 1 from rfl, Nat.mul_one] at hv376_0
        replace hv376_0 := Option.some.inj (hv376_0.symm.trans hx376_0)
        rw [hv376_0] at ge376_0
        have HL376_0 := Aside0.mk (show Kd.R (Kd.int .i64) 3 _ _ _ _ (rd_L1 t365 x10_2) from ge376_0)
        clear hv376_0 ge376_0
        clear hcc376 hce376
        have HR376_0 := Aside0.mk hi376_0
        have HC376_0 := Aside0.mk hl376_0
        clear hi376_0 hl376_0
        replace p376 := eq_true p376
        replace q376 := eq_true q376
        obtain ⟨Ao67, co67, eo67⟩ := Kd.R_slice HO_11.out
        subst eo67
        go_wp2_with (first | (go_at_call 15; (with_reducible refine (fettlelaw05_Ints.calls k3 _ _ (rd_L1 t365 x10_2) _ _ x11_3 false _ ?side1 ?side2 ?side3 ?side4 A62.out).mono ?_); (case side1 => repeat (first | exact (by repeat with_reducible first | exact HR376_0.out | refine C_alloc ?_ _ | refine C_drewN ?_ _ | refine C_drew ?_) | (with_reducible refine C_alloc ?_ _) | (with_reducible refine C_drewN ?_ _) | (with_reducible refine C_drew ?_))); (case side2 => exact HC376_0.out); (case side3 => repeat (first | exact (R_reads' HO_11.out).2.2 | (with_reducible refine C_alloc ?_ _) | (with_reducible refine C_drewN ?_ _) | (with_reducible refine C_drew ?_))); (case side4 => exact (R_reads' HO_11.out).2.1); rintro e w' ⟨rfl, ⟨nd, rfl⟩⟩; (try first | exact ⟨rfl, _, World.drewN_drewN _ _ _⟩ | exact ⟨rfl, _, Eq.trans (World.drewN_drewN _ _ _) (congrArg (World.drewN _) (Nat.add_assoc _ _ _))⟩)))
        repeat (go_quiet (first | (go_at_call 15; (with_reducible refine (fettlelaw05_Ints.calls k3 _ _ (rd_L1 t365 x10_2) _ _ x11_3 false _ ?side1 ?side2 ?side3 ?side4 A62.out).mono ?_); (case side1 => repeat (first | exact (by repeat with_reducible first | exact HR376_0.out | refine C_alloc ?_ _ | refine C_drewN ?_ _ | refine C_drew ?_) | (with_reducible refine C_alloc ?_ _) | (with_reducible refine C_drewN ?_ _) | (with_reducible refine C_drew ?_))); (case side2 => exact HC376_0.out); (case side3 => repeat (first | exact (R_reads' HO_11.out).2.2 | (with_reducible refine C_alloc ?_ _) | (with_reducible refine C_drewN ?_ _) | (with_reducible refine C_drew ?_))); (case side4 => exact (R_reads' HO_11.out).2.1); rintro e w' ⟨rfl, ⟨nd, rfl⟩⟩; (try first | exact ⟨rfl, _, World.drewN_drewN _ _ _⟩ | exact ⟨rfl, _, Eq.trans (World.drewN_drewN _ _ _) (congrArg (World.drewN _) (Nat.add_assoc _ _ _))⟩))); try go_wp2_with (first | (go_at_call 15; (with_reducible refine (fettlelaw05_Ints.calls k3 _ _ (rd_L1 t365 x10_2) _ _ x11_3 false _ ?side1 ?side2 ?side3 ?side4 A62.out).mono ?_); (case side1 => repeat (first | exact (by repeat with_reducible first | exact HR376_0.out | refine C_alloc ?_ _ | refine C_drewN ?_ _ | refine C_drew ?_) | (with_reducible refine C_alloc ?_ _) | (with_reducible refine C_drewN ?_ _) | (with_reducible refine C_drew ?_))); (case side2 => exact HC376_0.out); (case side3 => repeat (first | exact (R_reads' HO_11.out).2.2 | (with_reducible refine C_alloc ?_ _) | (with_reducible refine C_drewN ?_ _) | (with_reducible refine C_drew ?_))); (case side4 => exact (R_reads' HO_11.out).2.1); rintro e w' ⟨rfl, ⟨nd, rfl⟩⟩; (try first | exact ⟨rfl, _, World.drewN_drewN _ _ _⟩ | exact ⟨rfl, _, Eq.trans (World.drewN_drewN _ _ _) (congrArg (World.drewN _) (Nat.add_assoc _ _ _))⟩))))
        go_ret
        exact ⟨by first | rfl | (simp [errW_none, errW_some] <;> rfl) | (simp [*, errW_none, errW_some] <;> rfl), by repeat (first | (with_reducible first | exact HB.out | apply below_alloc | apply pw_below_drewN | apply below_drew1 | refine below_set ?_ GE356.out) | exact HB.out)⟩
      rw [if_neg c43] at H
      have c43b0 : (((rd_L11 t362 x10_2).length : Int) == (t371.length : Int)) = false := beq_eq_false_iff_ne.mpr c43
      have c43b1 : (((rd_L11 t362 x10_2).length : Int) != (t371.length : Int)) = true := bne_iff_ne.mpr c43
      have c43b2 : ((rd_L11 t362 x10_2).length == t371.length) = false := by first | simpa using c43 | (simp at c43 ⊢; omega)
      obtain rfl := Option.some.inj H
      obtain ⟨Ao68, co68, eo68⟩ := Kd.S_slice HO_9.out
      subst eo68
      obtain ⟨Ao69, co69, eo69⟩ := Kd.S_slice HO_6.out
      subst eo69
      have p375 : 0 ≤ (x10_2 : Int) := of_decide_eq_true (by with_reducible assumption)
      have q375 : x10_2 < (t362.length : Int) := of_decide_eq_true (by with_reducible assumption)
      obtain ⟨ad375, A375_0, c375_0, e375, hx375_0, hl375_0, hi375_0⟩ := at_L11 (S_reads' HO_6.out).2.2 x10_2 p375 q375
      cases e375
      obtain ⟨ce375, hce375, hMe375, hcc375⟩ := S_get HO_6.out [] x10_2 p375 (by first | exact q375 | exact of_decide_eq_true (by with_reducible assumption) | (have e_ := (S_reads' HO_6.out).1; omega))
      obtain ⟨ve375_0, rfl, ge375_0⟩ := hMe375
      have hv375_0 := hcc375 0 _ rfl
      rw [Nat.add_zero, show ((Kd.slice 4 Kd.bool)).sz = 1 from rfl, Nat.mul_one] at hv375_0
      replace hv375_0 := Option.some.inj (hv375_0.symm.trans hx375_0)
      rw [hv375_0] at ge375_0
      have HL375_0 := Aside0.mk (show Kd.R Kd.bool 4 _ _ _ _ (rd_L11 t362 x10_2) from ge375_0)
      clear hv375_0 ge375_0
      clear hcc375 hce375
      have HR375_0 := Aside0.mk hi375_0
      have HC375_0 := Aside0.mk hl375_0
      clear hi375_0 hl375_0
      replace p375 := eq_true p375
      replace q375 := eq_true q375
      go_wp2
      repeat (go_quiet (fail); try go_wp2)
      go_ret
      exact ⟨by first | rfl | (simp [errW_none, errW_some] <;> rfl) | (simp [*, errW_none, errW_some] <;> rfl), by repeat (first | (with_reducible first | exact HB.out | apply below_alloc | apply pw_below_drewN | apply below_drew1 | refine below_set ?_ GE356.out) | exact HB.out)⟩
    rw [if_neg c40] at H
    have c40b0 : decide (x10_2 < (t371.length : Int)) = false := decide_eq_false c40
    clear c40
    obtain rfl := Option.some.inj H
    obtain ⟨Ao70, co70, eo70⟩ := Kd.S_slice HO_9.out
    subst eo70
    go_wp2
    repeat (go_quiet (fail); try go_wp2)
    go_ret
    exact ⟨by first | rfl | (simp [errW_none, errW_some] <;> rfl) | (simp [*, errW_none, errW_some] <;> rfl), by repeat (first | (with_reducible first | exact HB.out | apply below_alloc | apply pw_below_drewN | apply below_drew1 | refine below_set ?_ GE356.out) | exact HB.out)⟩
  replace c4 := Bool.eq_false_iff.mpr c4
  subst c4
  have H1 : (some t357) = some r := by rw [if_neg (show ¬ (false = true) by decide)] at H; exact H
  clear H
  have H := H1
  clear H1
  obtain rfl := Option.some.inj H
  go_enter Try.func6, Try.ntmps6
  go_wp2_with (first | ((with_reducible refine gate_dst (N := 1) rfl ?_); (try (refine gate_guard (by rfl) ?_; dsimp only)); refine box_event ?hg (N := 1) ?hd (cs := #[.int .i64 a0_0, .int .i64 a0_1, .slice A0_2 l0_2.length c0_2, .slice A0_3 l0_3.length c0_3]) (t := 25) ?hr ?_; (case hd => rfl); (case hg => rfl); (case hr => first | (go_simp; done) | (go_simp; rfl)); intro gb356 hg w71 hbox hb; have n0_ := Aside0.mk (below_step (by repeat with_reducible first | exact HB.out | apply below_alloc | apply pw_below_drewN | apply below_drew1) hb); have n1_ := Aside0.mk (hbox); have n2_ := Aside0.mk ((by rw [hg]; exact (below_size (by repeat with_reducible first | exact HB.out | apply below_alloc | apply pw_below_drewN | apply below_drew1)) : w.heap.size ≤ gb356)); have n3_ := Aside0.mk ((by rw [hg]; exact (below_size (by repeat with_reducible first | exact HB.out | apply below_alloc | apply pw_below_drewN | apply below_drew1)) : w.heap.size ≤ gb356)); clear HB; have HB := n0_; have BK356 := n1_; have GW356 := n2_; have GE356 := n3_; clear n0_ n1_ n2_ n3_; clear hb hbox hg) | (go_at_call 11; (with_reducible refine (fettlelaw06_up.calls k  t357 _ A2.out).mono ?_); rintro e w72 ⟨rfl, hb⟩; have n0_ := Aside0.mk (blk_below (g := gb356) (o := .cells #[.int .i64 a0_0, .int .i64 a0_1, .slice A0_2 l0_2.length c0_2, .slice A0_3 l0_3.length c0_3] 25 (0, 0)) (by (with_reducible repeat (first | refine blk_drewN ?_ _ | refine blk_drew ?_ | refine blk_alloc ?_ _)); exact BK356.out) hb); have n1_ := Aside0.mk (below_step (by repeat with_reducible first | exact HB.out | apply below_alloc | apply pw_below_drewN | apply below_drew1 | refine below_set ?_ GE356.out) hb); clear BK356; clear HB; have BK356 := n0_; have HB := n1_; clear n0_ n1_; (try clear hb); (try clear hb2); (try clear hk); (try clear hi); have hcz73_0 : w72.cell? ⟨gb356, 0, none⟩ = some (.int .i64 a0_0) := (blk_cell BK356.out 0).trans rfl; have hcz73_1 : w72.cell? ⟨gb356, 1, none⟩ = some (.int .i64 a0_1) := (blk_cell BK356.out 1).trans rfl; have hcz73_2 : w72.cell? ⟨gb356, 2, none⟩ = some (.slice A0_2 l0_2.length c0_2) := (blk_cell BK356.out 2).trans rfl; have hcz73_3 : w72.cell? ⟨gb356, 3, none⟩ = some (.slice A0_3 l0_3.length c0_3) := (blk_cell BK356.out 3).trans rfl; have hfz73_0 := blk_frozen BK356.out 0; have hfz73_1 := blk_frozen BK356.out 1; have hfz73_2 := blk_frozen BK356.out 2; have hfz73_3 := blk_frozen BK356.out 3) | (go_at_call 12; (with_reducible refine (fettlelaw06_small.calls k a0_0 a0_1 (fun k_ => k_ < w.heap.size) _ _ l0_2 (fun k_ => k_ < w.heap.size) _ _ l0_3 false _ ?side1 ?side2 A3.out).mono ?_); (case side1 => exact Kd.V_mk HC0_2.out (Kd.F_below (Kd.C_F (Kd.heap_int .i64) HR0_2.out) (by repeat with_reducible first | exact HB.out | apply below_alloc | apply pw_below_drewN | apply below_drew1 | refine below_set ?_ GE356.out))); (case side2 => exact Kd.V_mk HC0_3.out (Kd.F_below (Kd.C_F k52_heap HR0_3.out) (by repeat with_reducible first | exact HB.out | apply below_alloc | apply pw_below_drewN | apply below_drew1 | refine below_set ?_ GE356.out))); rintro e w74 ⟨rfl, hb⟩; have n0_ := Aside0.mk (blk_below (g := gb356) (o := .cells #[.int .i64 a0_0, .int .i64 a0_1, .slice A0_2 l0_2.length c0_2, .slice A0_3 l0_3.length c0_3] 25 (0, 0)) (by (with_reducible repeat (first | refine blk_drewN ?_ _ | refine blk_drew ?_ | refine blk_alloc ?_ _)); exact BK356.out) hb); have n1_ := Aside0.mk (below_step (by repeat with_reducible first | exact HB.out | apply below_alloc | apply pw_below_drewN | apply below_drew1 | refine below_set ?_ GE356.out) hb); clear BK356; clear HB; have BK356 := n0_; have HB := n1_; clear n0_ n1_; (try clear hb); (try clear hb2); (try clear hk); (try clear hi)))
  repeat (go_quiet (first | ((with_reducible refine gate_dst (N := 1) rfl ?_); (try (refine gate_guard (by rfl) ?_; dsimp only)); refine box_event ?hg (N := 1) ?hd (cs := #[.int .i64 a0_0, .int .i64 a0_1, .slice A0_2 l0_2.length c0_2, .slice A0_3 l0_3.length c0_3]) (t := 25) ?hr ?_; (case hd => rfl); (case hg => rfl); (case hr => first | (go_simp; done) | (go_simp; rfl)); intro gb356 hg w71 hbox hb; have n0_ := Aside0.mk (below_step (by repeat with_reducible first | exact HB.out | apply below_alloc | apply pw_below_drewN | apply below_drew1) hb); have n1_ := Aside0.mk (hbox); have n2_ := Aside0.mk ((by rw [hg]; exact (below_size (by repeat with_reducible first | exact HB.out | apply below_alloc | apply pw_below_drewN | apply below_drew1)) : w.heap.size ≤ gb356)); have n3_ := Aside0.mk ((by rw [hg]; exact (below_size (by repeat with_reducible first | exact HB.out | apply below_alloc | apply pw_below_drewN | apply below_drew1)) : w.heap.size ≤ gb356)); clear HB; have HB := n0_; have BK356 := n1_; have GW356 := n2_; have GE356 := n3_; clear n0_ n1_ n2_ n3_; clear hb hbox hg) | (go_at_call 11; (with_reducible refine (fettlelaw06_up.calls k  t357 _ A2.out).mono ?_); rintro e w72 ⟨rfl, hb⟩; have n0_ := Aside0.mk (blk_below (g := gb356) (o := .cells #[.int .i64 a0_0, .int .i64 a0_1, .slice A0_2 l0_2.length c0_2, .slice A0_3 l0_3.length c0_3] 25 (0, 0)) (by (with_reducible repeat (first | refine blk_drewN ?_ _ | refine blk_drew ?_ | refine blk_alloc ?_ _)); exact BK356.out) hb); have n1_ := Aside0.mk (below_step (by repeat with_reducible first | exact HB.out | apply below_alloc | apply pw_below_drewN | apply below_drew1 | refine below_set ?_ GE356.out) hb); clear BK356; clear HB; have BK356 := n0_; have HB := n1_; clear n0_ n1_; (try clear hb); (try clear hb2); (try clear hk); (try clear hi); have hcz73_0 : w72.cell? ⟨gb356, 0, none⟩ = some (.int .i64 a0_0) := (blk_cell BK356.out 0).trans rfl; have hcz73_1 : w72.cell? ⟨gb356, 1, none⟩ = some (.int .i64 a0_1) := (blk_cell BK356.out 1).trans rfl; have hcz73_2 : w72.cell? ⟨gb356, 2, none⟩ = some (.slice A0_2 l0_2.length c0_2) := (blk_cell BK356.out 2).trans rfl; have hcz73_3 : w72.cell? ⟨gb356, 3, none⟩ = some (.slice A0_3 l0_3.length c0_3) := (blk_cell BK356.out 3).trans rfl; have hfz73_0 := blk_frozen BK356.out 0; have hfz73_1 := blk_frozen BK356.out 1; have hfz73_2 := blk_frozen BK356.out 2; have hfz73_3 := blk_frozen BK356.out 3) | (go_at_call 12; (with_reducible refine (fettlelaw06_small.calls k a0_0 a0_1 (fun k_ => k_ < w.heap.size) _ _ l0_2 (fun k_ => k_ < w.heap.size) _ _ l0_3 false _ ?side1 ?side2 A3.out).mono ?_); (case side1 => exact Kd.V_mk HC0_2.out (Kd.F_below (Kd.C_F (Kd.heap_int .i64) HR0_2.out) (by repeat with_reducible first | exact HB.out | apply below_alloc | apply pw_below_drewN | apply below_drew1 | refine below_set ?_ GE356.out))); (case side2 => exact Kd.V_mk HC0_3.out (Kd.F_below (Kd.C_F k52_heap HR0_3.out) (by repeat with_reducible first | exact HB.out | apply below_alloc | apply pw_below_drewN | apply below_drew1 | refine below_set ?_ GE356.out))); rintro e w74 ⟨rfl, hb⟩; have n0_ := Aside0.mk (blk_below (g := gb356) (o := .cells #[.int .i64 a0_0, .int .i64 a0_1, .slice A0_2 l0_2.length c0_2, .slice A0_3 l0_3.length c0_3] 25 (0, 0)) (by (with_reducible repeat (first | refine blk_drewN ?_ _ | refine blk_drew ?_ | refine blk_alloc ?_ _)); exact BK356.out) hb); have n1_ := Aside0.mk (below_step (by repeat with_reducible first | exact HB.out | apply below_alloc | apply pw_below_drewN | apply below_drew1 | refine below_set ?_ GE356.out) hb); clear BK356; clear HB; have BK356 := n0_; have HB := n1_; clear n0_ n1_; (try clear hb); (try clear hb2); (try clear hk); (try clear hi))); try go_wp2_with (first | ((with_reducible refine gate_dst (N := 1) rfl ?_); (try (refine gate_guard (by rfl) ?_; dsimp only)); refine box_event ?hg (N := 1) ?hd (cs := #[.int .i64 a0_0, .int .i64 a0_1, .slice A0_2 l0_2.length c0_2, .slice A0_3 l0_3.length c0_3]) (t := 25) ?hr ?_; (case hd => rfl); (case hg => rfl); (case hr => first | (go_simp; done) | (go_simp; rfl)); intro gb356 hg w71 hbox hb; have n0_ := Aside0.mk (below_step (by repeat with_reducible first | exact HB.out | apply below_alloc | apply pw_below_drewN | apply below_drew1) hb); have n1_ := Aside0.mk (hbox); have n2_ := Aside0.mk ((by rw [hg]; exact (below_size (by repeat with_reducible first | exact HB.out | apply below_alloc | apply pw_below_drewN | apply below_drew1)) : w.heap.size ≤ gb356)); have n3_ := Aside0.mk ((by rw [hg]; exact (below_size (by repeat with_reducible first | exact HB.out | apply below_alloc | apply pw_below_drewN | apply below_drew1)) : w.heap.size ≤ gb356)); clear HB; have HB := n0_; have BK356 := n1_; have GW356 := n2_; have GE356 := n3_; clear n0_ n1_ n2_ n3_; clear hb hbox hg) | (go_at_call 11; (with_reducible refine (fettlelaw06_up.calls k  t357 _ A2.out).mono ?_); rintro e w72 ⟨rfl, hb⟩; have n0_ := Aside0.mk (blk_below (g := gb356) (o := .cells #[.int .i64 a0_0, .int .i64 a0_1, .slice A0_2 l0_2.length c0_2, .slice A0_3 l0_3.length c0_3] 25 (0, 0)) (by (with_reducible repeat (first | refine blk_drewN ?_ _ | refine blk_drew ?_ | refine blk_alloc ?_ _)); exact BK356.out) hb); have n1_ := Aside0.mk (below_step (by repeat with_reducible first | exact HB.out | apply below_alloc | apply pw_below_drewN | apply below_drew1 | refine below_set ?_ GE356.out) hb); clear BK356; clear HB; have BK356 := n0_; have HB := n1_; clear n0_ n1_; (try clear hb); (try clear hb2); (try clear hk); (try clear hi); have hcz73_0 : w72.cell? ⟨gb356, 0, none⟩ = some (.int .i64 a0_0) := (blk_cell BK356.out 0).trans rfl; have hcz73_1 : w72.cell? ⟨gb356, 1, none⟩ = some (.int .i64 a0_1) := (blk_cell BK356.out 1).trans rfl; have hcz73_2 : w72.cell? ⟨gb356, 2, none⟩ = some (.slice A0_2 l0_2.length c0_2) := (blk_cell BK356.out 2).trans rfl; have hcz73_3 : w72.cell? ⟨gb356, 3, none⟩ = some (.slice A0_3 l0_3.length c0_3) := (blk_cell BK356.out 3).trans rfl; have hfz73_0 := blk_frozen BK356.out 0; have hfz73_1 := blk_frozen BK356.out 1; have hfz73_2 := blk_frozen BK356.out 2; have hfz73_3 := blk_frozen BK356.out 3) | (go_at_call 12; (with_reducible refine (fettlelaw06_small.calls k a0_0 a0_1 (fun k_ => k_ < w.heap.size) _ _ l0_2 (fun k_ => k_ < w.heap.size) _ _ l0_3 false _ ?side1 ?side2 A3.out).mono ?_); (case side1 => exact Kd.V_mk HC0_2.out (Kd.F_below (Kd.C_F (Kd.heap_int .i64) HR0_2.out) (by repeat with_reducible first | exact HB.out | apply below_alloc | apply pw_below_drewN | apply below_drew1 | refine below_set ?_ GE356.out))); (case side2 => exact Kd.V_mk HC0_3.out (Kd.F_below (Kd.C_F k52_heap HR0_3.out) (by repeat with_reducible first | exact HB.out | apply below_alloc | apply pw_below_drewN | apply below_drew1 | refine below_set ?_ GE356.out))); rintro e w74 ⟨rfl, hb⟩; have n0_ := Aside0.mk (blk_below (g := gb356) (o := .cells #[.int .i64 a0_0, .int .i64 a0_1, .slice A0_2 l0_2.length c0_2, .slice A0_3 l0_3.length c0_3] 25 (0, 0)) (by (with_reducible repeat (first | refine blk_drewN ?_ _ | refine blk_drew ?_ | refine blk_alloc ?_ _)); exact BK356.out) hb); have n1_ := Aside0.mk (below_step (by repeat with_reducible first | exact HB.out | apply below_alloc | apply pw_below_drewN | apply below_drew1 | refine below_set ?_ GE356.out) hb); clear BK356; clear HB; have BK356 := n0_; have HB := n1_; clear n0_ n1_; (try clear hb); (try clear hb2); (try clear hk); (try clear hi))))
  go_ret
  exact ⟨by first | rfl | (simp [errW_none, errW_some] <;> rfl) | (simp [*, errW_none, errW_some] <;> rfl), by repeat (first | (with_reducible first | exact HB.out | apply below_alloc | apply pw_below_drewN | apply below_drew1 | refine below_set ?_ GE356.out) | exact HB.out)⟩

/-- THE ONE PURE STATEMENT of fettlelaw06_DomNearest: yours. -/
def fettlelaw06_DomNearest.Pure : Prop := ∀ (a0_0 : Int) (a0_1 : Int) (l0_2 : List Int) (l0_3 : List (S52)), ∃ k, fettlelaw06_DomNearest.f k a0_0 a0_1 l0_2 l0_3 = some true
theorem fettlelaw06_DomNearest.walk (P : fettlelaw06_DomNearest.Pure) (a0_0 : Int) (a0_1 : Int) (A0_2 : Option Addr) (c0_2 : Nat) (l0_2 : List Int) (A0_3 : Option Addr) (c0_3 : Nat) (l0_3 : List (S52)) (w : World) (hr0_2 : Kd.C (Kd.int .i64) w A0_2 l0_2.length l0_2) (hc0_2 : l0_2.length ≤ c0_2) (hr0_3 : Kd.C k52 w A0_3 l0_3.length l0_3) (hc0_3 : l0_3.length ≤ c0_3) :
    Calls Try.prog 6 #[.agg #[.int .i64 a0_0, .int .i64 a0_1, .slice A0_2 l0_2.length c0_2, .slice A0_3 l0_3.length c0_3]] w fun e w' => e = .returned (.bool true) ∧ Below w.heap.size w w' := by
  obtain ⟨k, h⟩ := P a0_0 a0_1 l0_2 l0_3 
  refine (fettlelaw06_DomNearest.calls k a0_0 a0_1 A0_2 c0_2 l0_2 A0_3 c0_3 l0_3 true w hr0_2 hc0_2 hr0_3 hc0_3 h).mono ?_
  rintro e w' ⟨rfl, hd⟩
  exact ⟨rfl, hd⟩

end Go.Proofs.Ytpionncanaamgaa.PDomNearest
