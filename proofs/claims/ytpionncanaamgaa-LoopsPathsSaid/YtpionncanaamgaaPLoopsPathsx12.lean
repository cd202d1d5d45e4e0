-- Laid by a program of this session (wip/pp/patch.py over the kit's print).
-- mended yes
-- mended: lengths
import Derived.Test.YtpionncanaamgaaPLoopsPathsx0
import Derived.Test.YtpionncanaamgaaPLoopsPathsx1
import Derived.Test.YtpionncanaamgaaPLoopsPathsx9
import Derived.Test.YtpionncanaamgaaPLoopsPathsx11
namespace Go.Proofs.Ytpionncanaamgaa.PLoopsPaths
open Go.RowKit Go.Proofs.YtpionncanaamgaaW.PrintWords Go.Proofs.YtpionncanaamgaaW.PrintLast Go.Proofs.YtpionncanaamgaaW.PrintMore Go.Proofs.YtpionncanaamgaaW.PrintWords.Kd
attribute [local go_sem] max2_int min2_int max_two min_two max_three min_three max_four min_four   -- for this text's walks alone
set_option linter.unusedVariables false
set_option linter.unusedSimpArgs false

/-! ### fettlelaw07_LoopsPaths: function 9 -/
mutual
def fettlelaw07_LoopsPaths.j0 : Nat → List Int → Bool → Bool → Int → Int → List Int → List (S52) → Option (Bool)
  | 0, _, _, _, _, _, _, _ => none
  | k + 1, x1, x5, x25, x321000, x321001, x321002, x321003 => if x25 = true then (some x5) else ((loops_Loops.f k x321000 x321001 x321002 x321003).bind fun t323 => (if 0 ≤ (x321003.length : Int) then (if ((x321003.length : Int) : Int).toNat ≤ 281474976710656 then (fettlelaw07_LoopsPaths.l0 k x1 x5 t323 (List.replicate ((x321003.length : Int) : Int).toNat false) 0 0 x321000 x321001 x321002 x321003) else (none)) else (none)))
def fettlelaw07_LoopsPaths.l0 : Nat → List Int → Bool → List (S44) → List Bool → Int → Int → Int → Int → List Int → List (S52) → Option (Bool)
  | 0, _, _, _, _, _, _, _, _, _, _ => none
  | k + 1, x1, x5, x7, x8, x9, x10, x321000, x321001, x321002, x321003 => if x10 ≤ (x1.length : Int) then (fettlelaw07_LoopsPaths.j2 k x1 x5 x7 x8 x9 x10 (decide (x10 < 60)) x321000 x321001 x321002 x321003) else (fettlelaw07_LoopsPaths.j2 k x1 x5 x7 x8 x9 x10 false x321000 x321001 x321002 x321003)
def fettlelaw07_LoopsPaths.j2 : Nat → List Int → Bool → List (S44) → List Bool → Int → Int → Bool → Int → Int → List Int → List (S52) → Option (Bool)
  | 0, _, _, _, _, _, _, _, _, _, _, _ => none
  | k + 1, x1, x5, x7, x8, x9, x10, x40, x321000, x321001, x321002, x321003 => if x40 = true then (if 0 ≤ x9 then (if x9 < (x8.length : Int) then (fettlelaw07_LoopsPaths.l1 k x1 x5 x7 (x8.set (x9 : Int).toNat true) x9 x10 0 x321000 x321001 x321002 x321003) else (none)) else (none)) else (some x5)
def fettlelaw07_LoopsPaths.l1 : Nat → List Int → Bool → List (S44) → List Bool → Int → Int → Int → Int → Int → List Int → List (S52) → Option (Bool)
  | 0, _, _, _, _, _, _, _, _, _, _, _ => none
  | k + 1, x1, x5, x7, x8, x9, x10, x11, x321000, x321001, x321002, x321003 => if x11 < (x7.length : Int) then (if 0 ≤ x11 then ((fettlelaw07_has.f k ((rd_T44 x7 x11).f1) x9).bind fun t331 => (if ((rd_T44 x7 x11).f0) < 0 then (some false) else (if ((rd_T44 x7 x11).f0) ≥ (x8.length : Int) then (some false) else (if t331 = true then (if 0 ≤ ((rd_T44 x7 x11).f0) then (if ((rd_T44 x7 x11).f0) < (x8.length : Int) then (if (rdOf false x8 ((rd_T44 x7 x11).f0) = true) then (fettlelaw07_LoopsPaths.l1 k x1 x5 x7 x8 x9 x10 (wrap64 (x11 + 1)) x321000 x321001 x321002 x321003) else (some false)) else (none)) else (none)) else (fettlelaw07_LoopsPaths.l1 k x1 x5 x7 x8 x9 x10 (wrap64 (x11 + 1)) x321000 x321001 x321002 x321003))))) else (none)) else ((fettleref05_Next.f k x321000 x321001 x321002 x321003 x9).bind fun t336 => (if (t336.length : Int) = 0 then (fettlelaw07_LoopsPaths.j4 k x1 x5 x7 x8 x10 t336 true x321000 x321001 x321002 x321003) else (fettlelaw07_LoopsPaths.j4 k x1 x5 x7 x8 x10 t336 (decide (x10 ≥ (x1.length : Int))) x321000 x321001 x321002 x321003)))
def fettlelaw07_LoopsPaths.j4 : Nat → List Int → Bool → List (S44) → List Bool → Int → List Int → Bool → Int → Int → List Int → List (S52) → Option (Bool)
  | 0, _, _, _, _, _, _, _, _, _, _, _ => none
  | k + 1, x1, x5, x7, x8, x10, x13, x100, x321000, x321001, x321002, x321003 => if x100 = true then (some x5) else (if 0 ≤ x10 then (if x10 < (x1.length : Int) then (if (rd x1 x10) < 0 then (if (x13.length : Int) = 0 then (none) else (if 0 ≤ (Int.tmod (wrap64 (-(wrap64 ((rd x1 x10) + 1)))) (x13.length : Int)) then (if (Int.tmod (wrap64 (-(wrap64 ((rd x1 x10) + 1)))) (x13.length : Int)) < (x13.length : Int) then (fettlelaw07_LoopsPaths.l0 k x1 x5 x7 x8 (rd x13 (Int.tmod (wrap64 (-(wrap64 ((rd x1 x10) + 1)))) (x13.length : Int))) (wrap64 (x10 + 1)) x321000 x321001 x321002 x321003) else (none)) else (none))) else (if (x13.length : Int) = 0 then (none) else (if 0 ≤ (Int.tmod (rd x1 x10) (x13.length : Int)) then (if (Int.tmod (rd x1 x10) (x13.length : Int)) < (x13.length : Int) then (fettlelaw07_LoopsPaths.l0 k x1 x5 x7 x8 (rd x13 (Int.tmod (rd x1 x10) (x13.length : Int))) (wrap64 (x10 + 1)) x321000 x321001 x321002 x321003) else (none)) else (none)))) else (none)) else (none))
end
def fettlelaw07_LoopsPaths.f (k : Nat) (a0_0 : Int) (a0_1 : Int) (l0_2 : List Int) (l0_3 : List (S52)) (l1 : List Int) : Option (Bool) := (fettlelaw07_up.f k).bind fun t321 => ((fettlelaw07_small.f k a0_0 a0_1 l0_2 l0_3).bind fun t322 => (if t322 = true then (fettlelaw07_LoopsPaths.j0 k l1 t321 ((l0_3.length : Int) == 0) a0_0 a0_1 l0_2 l0_3) else (fettlelaw07_LoopsPaths.j0 k l1 t321 true a0_0 a0_1 l0_2 l0_3)))
theorem fettlelaw07_LoopsPaths.mono_l : ∀ k, (∀ y0 y1 y2 y3 y4 y5 y6, LeO (fettlelaw07_LoopsPaths.j0 k y0 y1 y2 y3 y4 y5 y6) (fettlelaw07_LoopsPaths.j0 (k + 1) y0 y1 y2 y3 y4 y5 y6)) ∧ (∀ y0 y1 y2 y3 y4 y5 y6 y7 y8 y9, LeO (fettlelaw07_LoopsPaths.l0 k y0 y1 y2 y3 y4 y5 y6 y7 y8 y9) (fettlelaw07_LoopsPaths.l0 (k + 1) y0 y1 y2 y3 y4 y5 y6 y7 y8 y9)) ∧ (∀ y0 y1 y2 y3 y4 y5 y6 y7 y8 y9 y10, LeO (fettlelaw07_LoopsPaths.j2 k y0 y1 y2 y3 y4 y5 y6 y7 y8 y9 y10) (fettlelaw07_LoopsPaths.j2 (k + 1) y0 y1 y2 y3 y4 y5 y6 y7 y8 y9 y10)) ∧ (∀ y0 y1 y2 y3 y4 y5 y6 y7 y8 y9 y10, LeO (fettlelaw07_LoopsPaths.l1 k y0 y1 y2 y3 y4 y5 y6 y7 y8 y9 y10) (fettlelaw07_LoopsPaths.l1 (k + 1) y0 y1 y2 y3 y4 y5 y6 y7 y8 y9 y10)) ∧ (∀ y0 y1 y2 y3 y4 y5 y6 y7 y8 y9 y10, LeO (fettlelaw07_LoopsPaths.j4 k y0 y1 y2 y3 y4 y5 y6 y7 y8 y9 y10) (fettlelaw07_LoopsPaths.j4 (k + 1) y0 y1 y2 y3 y4 y5 y6 y7 y8 y9 y10))
  | 0 => ⟨fun _ _ _ _ _ _ _ r h => by simp [fettlelaw07_LoopsPaths.j0] at h, fun _ _ _ _ _ _ _ _ _ _ r h => by simp [fettlelaw07_LoopsPaths.l0] at h, fun _ _ _ _ _ _ _ _ _ _ _ r h => by simp [fettlelaw07_LoopsPaths.j2] at h, fun _ _ _ _ _ _ _ _ _ _ _ r h => by simp [fettlelaw07_LoopsPaths.l1] at h, fun _ _ _ _ _ _ _ _ _ _ _ r h => by simp [fettlelaw07_LoopsPaths.j4] at h⟩
  | k + 1 => by
    obtain ⟨ih0, ih1, ih2, ih3, ih4⟩ := fettlelaw07_LoopsPaths.mono_l k
    refine ⟨?_, ?_, ?_, ?_, ?_⟩
    · intro y0 y1 y2 y3 y4 y5 y6
      unfold fettlelaw07_LoopsPaths.j0
      repeat' first
      | (with_reducible exact ih0 _ _ _ _ _ _ _)
      | (with_reducible exact ih1 _ _ _ _ _ _ _ _ _ _)
      | (with_reducible exact ih2 _ _ _ _ _ _ _ _ _ _ _)
      | (with_reducible exact ih3 _ _ _ _ _ _ _ _ _ _ _)
      | (with_reducible exact ih4 _ _ _ _ _ _ _ _ _ _ _)
      | (with_reducible exact fettlelaw07_has.mono _ _ _)
      | (with_reducible exact fettlelaw07_small.mono _ _ _ _ _)
      | (with_reducible exact fettlelaw07_up.mono _)
      | (with_reducible exact fettleref05_Next.mono _ _ _ _ _ _)
      | (with_reducible exact loops_Loops.mono _ _ _ _ _)
      | (with_reducible exact LeO.refl _)
      | (with_reducible exact LeO.none _)
      | (with_reducible refine LeO.ite ?_ ?_)
      | (with_reducible refine LeO.bind ?_ (fun _ => ?_))
      | exact ih0 _ _ _ _ _ _ _
      | exact ih1 _ _ _ _ _ _ _ _ _ _
      | exact ih2 _ _ _ _ _ _ _ _ _ _ _
      | exact ih3 _ _ _ _ _ _ _ _ _ _ _
      | exact ih4 _ _ _ _ _ _ _ _ _ _ _
      | exact fettlelaw07_has.mono _ _ _
      | exact fettlelaw07_small.mono _ _ _ _ _
      | exact fettlelaw07_up.mono _
      | exact fettleref05_Next.mono _ _ _ _ _ _
      | exact loops_Loops.mono _ _ _ _ _
      | exact LeO.none _
      | refine LeO.ite ?_ ?_
      | refine LeO.bind ?_ (fun _ => ?_)
    · intro y0 y1 y2 y3 y4 y5 y6 y7 y8 y9
      unfold fettlelaw07_LoopsPaths.l0
      repeat' first
      | (with_reducible exact ih0 _ _ _ _ _ _ _)
      | (with_reducible exact ih1 _ _ _ _ _ _ _ _ _ _)
      | (with_reducible exact ih2 _ _ _ _ _ _ _ _ _ _ _)
      | (with_reducible exact ih3 _ _ _ _ _ _ _ _ _ _ _)
      | (with_reducible exact ih4 _ _ _ _ _ _ _ _ _ _ _)
      | (with_reducible exact fettlelaw07_has.mono _ _ _)
      | (with_reducible exact fettlelaw07_small.mono _ _ _ _ _)
      | (with_reducible exact fettlelaw07_up.mono _)
      | (with_reducible exact fettleref05_Next.mono _ _ _ _ _ _)
      | (with_reducible exact loops_Loops.mono _ _ _ _ _)
      | (with_reducible exact LeO.refl _)
      | (with_reducible exact LeO.none _)
      | (with_reducible refine LeO.ite ?_ ?_)
      | (with_reducible refine LeO.bind ?_ (fun _ => ?_))
      | exact ih0 _ _ _ _ _ _ _
      | exact ih1 _ _ _ _ _ _ _ _ _ _
      | exact ih2 _ _ _ _ _ _ _ _ _ _ _
      | exact ih3 _ _ _ _ _ _ _ _ _ _ _
      | exact ih4 _ _ _ _ _ _ _ _ _ _ _
      | exact fettlelaw07_has.mono _ _ _
      | exact fettlelaw07_small.mono _ _ _ _ _
      | exact fettlelaw07_up.mono _
      | exact fettleref05_Next.mono _ _ _ _ _ _
      | exact loops_Loops.mono _ _ _ _ _
      | exact LeO.none _
      | refine LeO.ite ?_ ?_
      | refine LeO.bind ?_ (fun _ => ?_)
    · intro y0 y1 y2 y3 y4 y5 y6 y7 y8 y9 y10
      unfold fettlelaw07_LoopsPaths.j2
      repeat' first
      | (with_reducible exact ih0 _ _ _ _ _ _ _)
      | (with_reducible exact ih1 _ _ _ _ _ _ _ _ _ _)
      | (with_reducible exact ih2 _ _ _ _ _ _ _ _ _ _ _)
      | (with_reducible exact ih3 _ _ _ _ _ _ _ _ _ _ _)
      | (with_reducible exact ih4 _ _ _ _ _ _ _ _ _ _ _)
      | (with_reducible exact fettlelaw07_has.mono _ _ _)
      | (with_reducible exact fettlelaw07_small.mono _ _ _ _ _)
      | (with_reducible exact fettlelaw07_up.mono _)
      | (with_reducible exact fettleref05_Next.mono _ _ _ _ _ _)
      | (with_reducible exact loops_Loops.mono _ _ _ _ _)
      | (with_reducible exact LeO.refl _)
      | (with_reducible exact LeO.none _)
      | (with_reducible refine LeO.ite ?_ ?_)
      | (with_reducible refine LeO.bind ?_ (fun _ => ?_))
      | exact ih0 _ _ _ _ _ _ _
      | exact ih1 _ _ _ _ _ _ _ _ _ _
      | exact ih2 _ _ _ _ _ _ _ _ _ _ _
      | exact ih3 _ _ _ _ _ _ _ _ _ _ _
      | exact ih4 _ _ _ _ _ _ _ _ _ _ _
      | exact fettlelaw07_has.mono _ _ _
      | exact fettlelaw07_small.mono _ _ _ _ _
      | exact fettlelaw07_up.mono _
      | exact fettleref05_Next.mono _ _ _ _ _ _
      | exact loops_Loops.mono _ _ _ _ _
      | exact LeO.none _
      | refine LeO.ite ?_ ?_
      | refine LeO.bind ?_ (fun _ => ?_)
    · intro y0 y1 y2 y3 y4 y5 y6 y7 y8 y9 y10
      unfold fettlelaw07_LoopsPaths.l1
      repeat' first
      | (with_reducible exact ih0 _ _ _ _ _ _ _)
      | (with_reducible exact ih1 _ _ _ _ _ _ _ _ _ _)
      | (with_reducible exact ih2 _ _ _ _ _ _ _ _ _ _ _)
      | (with_reducible exact ih3 _ _ _ _ _ _ _ _ _ _ _)
      | (with_reducible exact ih4 _ _ _ _ _ _ _ _ _ _ _)
      | (with_reducible exact fettlelaw07_has.mono _ _ _)
      | (with_reducible exact fettlelaw07_small.mono _ _ _ _ _)
      | (with_reducible exact fettlelaw07_up.mono _)
      | (with_reducible exact fettleref05_Next.mono _ _ _ _ _ _)
      | (with_reducible exact loops_Loops.mono _ _ _ _ _)
      | (with_reducible exact LeO.refl _)
      | (with_reducible exact LeO.none _)
      | (with_reducible refine LeO.ite ?_ ?_)
      | (with_reducible refine LeO.bind ?_ (fun _ => ?_))
      | exact ih0 _ _ _ _ _ _ _
      | exact ih1 _ _ _ _ _ _ _ _ _ _
      | exact ih2 _ _ _ _ _ _ _ _ _ _ _
      | exact ih3 _ _ _ _ _ _ _ _ _ _ _
      | exact ih4 _ _ _ _ _ _ _ _ _ _ _
      | exact fettlelaw07_has.mono _ _ _
      | exact fettlelaw07_small.mono _ _ _ _ _
      | exact fettlelaw07_up.mono _
      | exact fettleref05_Next.mono _ _ _ _ _ _
      | exact loops_Loops.mono _ _ _ _ _
      | exact LeO.none _
      | refine LeO.ite ?_ ?_
      | refine LeO.bind ?_ (fun _ => ?_)
    · intro y0 y1 y2 y3 y4 y5 y6 y7 y8 y9 y10
      unfold fettlelaw07_LoopsPaths.j4
      repeat' first
      | (with_reducible exact ih0 _ _ _ _ _ _ _)
      | (with_reducible exact ih1 _ _ _ _ _ _ _ _ _ _)
      | (with_reducible exact ih2 _ _ _ _ _ _ _ _ _ _ _)
      | (with_reducible exact ih3 _ _ _ _ _ _ _ _ _ _ _)
      | (with_reducible exact ih4 _ _ _ _ _ _ _ _ _ _ _)
      | (with_reducible exact fettlelaw07_has.mono _ _ _)
      | (with_reducible exact fettlelaw07_small.mono _ _ _ _ _)
      | (with_reducible exact fettlelaw07_up.mono _)
      | (with_reducible exact fettleref05_Next.mono _ _ _ _ _ _)
      | (with_reducible exact loops_Loops.mono _ _ _ _ _)
      | (with_reducible exact LeO.refl _)
      | (with_reducible exact LeO.none _)
      | (with_reducible refine LeO.ite ?_ ?_)
      | (with_reducible refine LeO.bind ?_ (fun _ => ?_))
      | exact ih0 _ _ _ _ _ _ _
      | exact ih1 _ _ _ _ _ _ _ _ _ _
      | exact ih2 _ _ _ _ _ _ _ _ _ _ _
      | exact ih3 _ _ _ _ _ _ _ _ _ _ _
      | exact ih4 _ _ _ _ _ _ _ _ _ _ _
      | exact fettlelaw07_has.mono _ _ _
      | exact fettlelaw07_small.mono _ _ _ _ _
      | exact fettlelaw07_up.mono _
      | exact fettleref05_Next.mono _ _ _ _ _ _
      | exact loops_Loops.mono _ _ _ _ _
      | exact LeO.none _
      | refine LeO.ite ?_ ?_
      | refine LeO.bind ?_ (fun _ => ?_)
theorem fettlelaw07_LoopsPaths.mono : ∀ a0 a1 a2 a3 a4 k, LeO (fettlelaw07_LoopsPaths.f k a0 a1 a2 a3 a4) (fettlelaw07_LoopsPaths.f (k + 1) a0 a1 a2 a3 a4) := by
  intro a0 a1 a2 a3 a4 k
  obtain ⟨ih0, ih1, ih2, ih3, ih4⟩ := fettlelaw07_LoopsPaths.mono_l k
  unfold fettlelaw07_LoopsPaths.f
  repeat' first
      | (with_reducible exact ih0 _ _ _ _ _ _ _)
      | (with_reducible exact ih1 _ _ _ _ _ _ _ _ _ _)
      | (with_reducible exact ih2 _ _ _ _ _ _ _ _ _ _ _)
      | (with_reducible exact ih3 _ _ _ _ _ _ _ _ _ _ _)
      | (with_reducible exact ih4 _ _ _ _ _ _ _ _ _ _ _)
      | (with_reducible exact fettlelaw07_has.mono _ _ _)
      | (with_reducible exact fettlelaw07_small.mono _ _ _ _ _)
      | (with_reducible exact fettlelaw07_up.mono _)
      | (with_reducible exact fettleref05_Next.mono _ _ _ _ _ _)
      | (with_reducible exact loops_Loops.mono _ _ _ _ _)
      | (with_reducible exact LeO.refl _)
      | (with_reducible exact LeO.none _)
      | (with_reducible refine LeO.ite ?_ ?_)
      | (with_reducible refine LeO.bind ?_ (fun _ => ?_))
      | exact ih0 _ _ _ _ _ _ _
      | exact ih1 _ _ _ _ _ _ _ _ _ _
      | exact ih2 _ _ _ _ _ _ _ _ _ _ _
      | exact ih3 _ _ _ _ _ _ _ _ _ _ _
      | exact ih4 _ _ _ _ _ _ _ _ _ _ _
      | exact fettlelaw07_has.mono _ _ _
      | exact fettlelaw07_small.mono _ _ _ _ _
      | exact fettlelaw07_up.mono _
      | exact fettleref05_Next.mono _ _ _ _ _ _
      | exact loops_Loops.mono _ _ _ _ _
      | exact LeO.none _
      | refine LeO.ite ?_ ?_
      | refine LeO.bind ?_ (fun _ => ?_)
set_option maxHeartbeats 8000000 in
set_option maxRecDepth 100000 in
theorem fettlelaw07_LoopsPaths.calls (k : Nat) (a0_0 : Int) (a0_1 : Int) (A0_2 : Option Addr) (c0_2 : Nat) (l0_2 : List Int) (A0_3 : Option Addr) (c0_3 : Nat) (l0_3 : List (S52)) (A1 : Option Addr) (c1 : Nat) (l1 : List Int) (r : Bool) (w : World) (hr0_2 : Kd.C (Kd.int .i64) w A0_2 l0_2.length l0_2) (hc0_2 : l0_2.length ≤ c0_2) (hr0_3 : Kd.C k52 w A0_3 l0_3.length l0_3) (hc0_3 : l0_3.length ≤ c0_3) (hr1 : Kd.C (Kd.int .i64) w A1 l1.length l1) (hc1 : l1.length ≤ c1) (h : fettlelaw07_LoopsPaths.f k a0_0 a0_1 l0_2 l0_3 l1 = some r) :
    Calls Try.prog 9 #[.agg #[.int .i64 a0_0, .int .i64 a0_1, .slice A0_2 l0_2.length c0_2, .slice A0_3 l0_3.length c0_3], .slice A1 l1.length c1] w fun e w' => e = .returned (.bool r) ∧ Below w.heap.size w w' := by
  have hu25 := Try.underlying25
  have HR0_2 := Aside0.mk hr0_2
  have HC0_2 := Aside0.mk hc0_2
  clear hr0_2 hc0_2
  have HR0_3 := Aside0.mk hr0_3
  have HC0_3 := Aside0.mk hc0_3
  clear hr0_3 hc0_3
  have HR1 := Aside0.mk hr1
  have HC1 := Aside0.mk hc1
  clear hr1 hc1
  have HB := Aside0.mk (Below.refl w.heap.size w)
  have H : ((fettlelaw07_up.f k).bind fun t321 => ((fettlelaw07_small.f k a0_0 a0_1 l0_2 l0_3).bind fun t322 => (if t322 = true then (fettlelaw07_LoopsPaths.j0 k l1 t321 ((l0_3.length : Int) == 0) a0_0 a0_1 l0_2 l0_3) else (fettlelaw07_LoopsPaths.j0 k l1 t321 true a0_0 a0_1 l0_2 l0_3)))) = some r := h
  clear h
  replace H := Option.bind_eq_some_iff.mp H
  obtain ⟨t321, A30, H⟩ := H
  replace H : ((fettlelaw07_small.f k a0_0 a0_1 l0_2 l0_3).bind fun t322 => (if t322 = true then (fettlelaw07_LoopsPaths.j0 k l1 t321 ((l0_3.length : Int) == 0) a0_0 a0_1 l0_2 l0_3) else (fettlelaw07_LoopsPaths.j0 k l1 t321 true a0_0 a0_1 l0_2 l0_3))) = some r := H
  have A3 := Aside0.mk A30
  clear A30
  replace H := Option.bind_eq_some_iff.mp H
  obtain ⟨t322, A40, H⟩ := H
  replace H : (if t322 = true then (fettlelaw07_LoopsPaths.j0 k l1 t321 ((l0_3.length : Int) == 0) a0_0 a0_1 l0_2 l0_3) else (fettlelaw07_LoopsPaths.j0 k l1 t321 true a0_0 a0_1 l0_2 l0_3)) = some r := H
  have A4 := Aside0.mk A40
  clear A40
  have HC5 := Aside0.mk H
  clear H
  go_enter Try.func9, Try.ntmps9
  go_upto_region 3 with (first | ((with_reducible refine gate_dst (N := 2) rfl ?_); (try (refine gate_guard (by rfl) ?_; dsimp only)); refine box_event ?hg (N := 2) ?hd (cs := #[.int .i64 a0_0, .int .i64 a0_1, .slice A0_2 l0_2.length c0_2, .slice A0_3 l0_3.length c0_3]) (t := 25) ?hr ?_; (case hd => rfl); (case hg => rfl); (case hr => first | (go_simp; done) | (go_simp; rfl)); intro gb320 hg w6 hbox hb; have n0_ := Aside0.mk (below_step (by repeat with_reducible first | exact HB.out | apply below_alloc | apply pw_below_drewN | apply below_drew1) hb); have n1_ := Aside0.mk (hbox); have n2_ := Aside0.mk ((by rw [hg]; exact (below_size (by repeat with_reducible first | exact HB.out | apply below_alloc | apply pw_below_drewN | apply below_drew1)) : w.heap.size ≤ gb320)); have n3_ := Aside0.mk ((by rw [hg]; exact (below_size (by repeat with_reducible first | exact HB.out | apply below_alloc | apply pw_below_drewN | apply below_drew1)) : w.heap.size ≤ gb320)); clear HB; have HB := n0_; have BK320 := n1_; have GW320 := n2_; have GE320 := n3_; clear n0_ n1_ n2_ n3_; clear hb hbox hg) | ((with_reducible refine gate_callee (f := 25) rfl ?_); refine goesL_ (some 15) rfl rfl Try.func25 (by kernel_rfl) rfl #[] rfl (by (try simp only [List.map_toArray, List.map_cons, List.map_nil]); first | done | rfl) ?_; (with_reducible refine (fettlelaw07_up.calls k  t321 _ A3.out).mono ?_); rintro e w7 ⟨rfl, hb⟩; refine ⟨_, rfl, ?_⟩; have n0_ := Aside0.mk (blk_below (g := gb320) (o := .cells #[.int .i64 a0_0, .int .i64 a0_1, .slice A0_2 l0_2.length c0_2, .slice A0_3 l0_3.length c0_3] 25 (0, 0)) (by (with_reducible repeat (first | refine blk_drewN ?_ _ | refine blk_drew ?_ | refine blk_alloc ?_ _)); exact BK320.out) hb); have n1_ := Aside0.mk (below_step (by repeat with_reducible first | exact HB.out | apply below_alloc | apply pw_below_drewN | apply below_drew1 | refine below_set ?_ GE320.out) hb); clear BK320; clear HB; have BK320 := n0_; have HB := n1_; clear n0_ n1_; (try clear hb); (try clear hb2); (try clear hk); (try clear hi); have hcz8_0 : w7.cell? ⟨gb320, 0, none⟩ = some (.int .i64 a0_0) := (blk_cell BK320.out 0).trans rfl; have hcz8_1 : w7.cell? ⟨gb320, 1, none⟩ = some (.int .i64 a0_1) := (blk_cell BK320.out 1).trans rfl; have hcz8_2 : w7.cell? ⟨gb320, 2, none⟩ = some (.slice A0_2 l0_2.length c0_2) := (blk_cell BK320.out 2).trans rfl; have hcz8_3 : w7.cell? ⟨gb320, 3, none⟩ = some (.slice A0_3 l0_3.length c0_3) := (blk_cell BK320.out 3).trans rfl; have hfz8_0 := blk_frozen BK320.out 0; have hfz8_1 := blk_frozen BK320.out 1; have hfz8_2 := blk_frozen BK320.out 2; have hfz8_3 := blk_frozen BK320.out 3) | ((with_reducible refine gate_callee (f := 26) rfl ?_); refine goesL_ (some 17) rfl rfl Try.func26 (by kernel_rfl) rfl #[.agg #[.int .i64 a0_0, .int .i64 a0_1, .slice A0_2 l0_2.length c0_2, .slice A0_3 l0_3.length c0_3]] rfl (by (try simp only [List.map_toArray, List.map_cons, List.map_nil]); first | done | rfl) ?_; (with_reducible refine (fettlelaw07_small.calls k a0_0 a0_1 (fun k_ => k_ < w.heap.size) _ _ l0_2 (fun k_ => k_ < w.heap.size) _ _ l0_3 t322 _ ?side1 ?side2 A4.out).mono ?_); (case side1 => exact Kd.V_mk HC0_2.out (Kd.F_below (Kd.C_F (Kd.heap_int .i64) HR0_2.out) (by repeat with_reducible first | exact HB.out | apply below_alloc | apply pw_below_drewN | apply below_drew1 | refine below_set ?_ GE320.out))); (case side2 => exact Kd.V_mk HC0_3.out (Kd.F_below (Kd.C_F k52_heap HR0_3.out) (by repeat with_reducible first | exact HB.out | apply below_alloc | apply pw_below_drewN | apply below_drew1 | refine below_set ?_ GE320.out))); rintro e w9 ⟨rfl, hb⟩; refine ⟨_, rfl, ?_⟩; have n0_ := Aside0.mk (blk_below (g := gb320) (o := .cells #[.int .i64 a0_0, .int .i64 a0_1, .slice A0_2 l0_2.length c0_2, .slice A0_3 l0_3.length c0_3] 25 (0, 0)) (by (with_reducible repeat (first | refine blk_drewN ?_ _ | refine blk_drew ?_ | refine blk_alloc ?_ _)); exact BK320.out) hb); have n1_ := Aside0.mk (below_step (by repeat with_reducible first | exact HB.out | apply below_alloc | apply pw_below_drewN | apply below_drew1 | refine below_set ?_ GE320.out) hb); clear BK320; clear HB; have BK320 := n0_; have HB := n1_; clear n0_ n1_; (try clear hb); (try clear hb2); (try clear hk); (try clear hi)))
  (try simp only [Act.put, List.setIfInBounds_toArray, List.set_cons_zero, List.set_cons_succ])
  go_cut [25] (fun v25 wc => ∃ (kq : Nat) (x25_4 : Bool), v25 = .bool x25_4 ∧ Aside0 (fettlelaw07_LoopsPaths.j0 kq l1 t321 x25_4 a0_0 a0_1 l0_2 l0_3 = some r) ∧ Aside0 (kq ≤ k) ∧ Aside0 (wc.heap[gb320]? = some (.cells #[.int .i64 a0_0, .int .i64 a0_1, (.slice A0_2 l0_2.length c0_2), (.slice A0_3 l0_3.length c0_3)] 25 (0, 0))) ∧ Aside0 (Below w.heap.size w wc))
  case first =>
    have H := HC5.out
    clear HC5
    by_cases c10 : t322 = true
    · subst c10
      have H1 : (fettlelaw07_LoopsPaths.j0 k l1 t321 ((l0_3.length : Int) == 0) a0_0 a0_1 l0_2 l0_3) = some r := by rw [if_pos rfl] at H; exact H
      clear H
      have H := H1
      clear H1
      have H' := Aside0.mk H
      clear H
      have hcz11_0 : w9.cell? ⟨gb320, 0, none⟩ = some (.int .i64 a0_0) := (blk_cell BK320.out 0).trans rfl
      have hcz11_1 : w9.cell? ⟨gb320, 1, none⟩ = some (.int .i64 a0_1) := (blk_cell BK320.out 1).trans rfl
      have hcz11_2 : w9.cell? ⟨gb320, 2, none⟩ = some (.slice A0_2 l0_2.length c0_2) := (blk_cell BK320.out 2).trans rfl
      have hcz11_3 : w9.cell? ⟨gb320, 3, none⟩ = some (.slice A0_3 l0_3.length c0_3) := (blk_cell BK320.out 3).trans rfl
      have hfz11_0 := blk_frozen BK320.out 0
      have hfz11_1 := blk_frozen BK320.out 1
      have hfz11_2 := blk_frozen BK320.out 2
      have hfz11_3 := blk_frozen BK320.out 3
      go_wp2
      go_meet
      case rel => exact ⟨_, (((l0_3.length : Int) == 0)), (by first | rfl | (simp; done) | (simp [*]; done)), H', ⟨by first | omega | exact Nat.le_refl _⟩, ⟨by (with_reducible repeat (first | refine blk_drewN ?_ _ | refine blk_drew ?_ | refine blk_alloc ?_ _)); exact BK320.out⟩, ⟨by repeat (first | (with_reducible first | exact HB.out | apply below_alloc | apply pw_below_drewN | apply below_drew1 | refine below_set ?_ GE320.out) | exact HB.out)⟩⟩
    replace c10 := Bool.eq_false_iff.mpr c10
    subst c10
    have H1 : (fettlelaw07_LoopsPaths.j0 k l1 t321 true a0_0 a0_1 l0_2 l0_3) = some r := by rw [if_neg (show ¬ (false = true) by decide)] at H; exact H
    clear H
    have H := H1
    clear H1
    have H' := Aside0.mk H
    clear H
    go_wp2
    go_meet
    case rel => exact ⟨_, (true), (by first | rfl | (simp; done) | (simp [*]; done)), H', ⟨by first | omega | exact Nat.le_refl _⟩, ⟨by (with_reducible repeat (first | refine blk_drewN ?_ _ | refine blk_drew ?_ | refine blk_alloc ?_ _)); exact BK320.out⟩, ⟨by repeat (first | (with_reducible first | exact HB.out | apply below_alloc | apply pw_below_drewN | apply below_drew1 | refine below_set ?_ GE320.out) | exact HB.out)⟩⟩
  clear HC5
  try clear c1
  try clear c2
  try clear p2
  try clear c9
  try clear c10
  try clear hcz11_0
  try clear hcz11_1
  try clear hcz11_2
  try clear hcz11_3
  try clear hcz8_0
  try clear hcz8_1
  try clear hcz8_2
  try clear hcz8_3
  try clear hfz11_0
  try clear hfz11_1
  try clear hfz11_2
  try clear hfz11_3
  try clear hfz8_0
  try clear hfz8_1
  try clear hfz8_2
  try clear hfz8_3
  obtain ⟨kq, x25_4, rfl, HA, HJ4, BK320, HB⟩ := hcut
  rcases kq with _ | kj4
  · exact absurd HA.out (by simp [fettlelaw07_LoopsPaths.j0])
  have H := HA.out
  clear HA
  simp only [fettlelaw07_LoopsPaths.j0] at H
  by_cases c12 : x25_4 = true
  · subst c12
    have H1 : (some t321) = some r := by rw [if_pos rfl] at H; exact H
    clear H
    have H := H1
    clear H1
    obtain rfl := Option.some.inj H
    go_wp2
    go_ret
    exact ⟨by first | rfl | (simp [errW_none, errW_some] <;> rfl) | (simp [*, errW_none, errW_some] <;> rfl), by repeat (first | (with_reducible first | exact HB.out | apply below_alloc | apply pw_below_drewN | apply below_drew1 | refine below_set ?_ GE320.out) | exact HB.out)⟩
  replace c12 := Bool.eq_false_iff.mpr c12
  subst c12
  have H1 : ((loops_Loops.f kj4 a0_0 a0_1 l0_2 l0_3).bind fun t323 => (if 0 ≤ (l0_3.length : Int) then (if ((l0_3.length : Int) : Int).toNat ≤ 281474976710656 then (fettlelaw07_LoopsPaths.l0 kj4 l1 t321 t323 (List.replicate ((l0_3.length : Int) : Int).toNat false) 0 0 a0_0 a0_1 l0_2 l0_3) else (none)) else (none))) = some r := by rw [if_neg (show ¬ (false = true) by decide)] at H; exact H
  clear H
  have H := H1
  clear H1
  replace H := Option.bind_eq_some_iff.mp H
  obtain ⟨t323, A130, H⟩ := H
  replace H : (if 0 ≤ (l0_3.length : Int) then (if ((l0_3.length : Int) : Int).toNat ≤ 281474976710656 then (fettlelaw07_LoopsPaths.l0 kj4 l1 t321 t323 (List.replicate ((l0_3.length : Int) : Int).toNat false) 0 0 a0_0 a0_1 l0_2 l0_3) else (none)) else (none)) = some r := H
  have A13 := Aside0.mk A130
  clear A130
  by_cases c14 : 0 ≤ (l0_3.length : Int)
  rotate_left
  · rw [if_neg c14] at H
    exact absurd H (by simp)


  rw [if_pos c14] at H
  have c14b0 := eq_true c14
  have c14b1 : decide (0 ≤ (l0_3.length : Int)) = true := decide_eq_true c14
  clear c14
  by_cases c15 : ((l0_3.length : Int) : Int).toNat ≤ 281474976710656
  rotate_left
  · rw [if_neg c15] at H
    exact absurd H (by simp)
  rw [if_pos c15] at H
  have c15b0 := eq_true c15
  have c15b1 : decide (((l0_3.length : Int) : Int).toNat ≤ 281474976710656) = true := decide_eq_true c15
  clear c15
  obtain ⟨y326, hy326⟩ : ∃ y_ : List Bool, y_ = (List.replicate ((l0_3.length : Int) : Int).toNat false) := ⟨_, rfl⟩
  replace H : (fettlelaw07_LoopsPaths.l0 kj4 l1 t321 t323 y326 0 0 a0_0 a0_1 l0_2 l0_3) = some r := by first | (rw [hy326]; with_reducible exact H) | (have H2_ := (Option.bind_some _ _).symm.trans H; rw [hy326]; with_reducible exact H2_) | exact H
  have Ny326 := Aside0.mk hy326
  clear hy326
  have H' := Aside0.mk H
  clear H
  have hcz16_0 : wc.cell? ⟨gb320, 0, none⟩ = some (.int .i64 a0_0) := (blk_cell BK320.out 0).trans rfl
  have hcz16_1 : wc.cell? ⟨gb320, 1, none⟩ = some (.int .i64 a0_1) := (blk_cell BK320.out 1).trans rfl
  have hcz16_2 : wc.cell? ⟨gb320, 2, none⟩ = some (.slice A0_2 l0_2.length c0_2) := (blk_cell BK320.out 2).trans rfl
  have hcz16_3 : wc.cell? ⟨gb320, 3, none⟩ = some (.slice A0_3 l0_3.length c0_3) := (blk_cell BK320.out 3).trans rfl
  have hfz16_0 := blk_frozen BK320.out 0
  have hfz16_1 := blk_frozen BK320.out 1
  have hfz16_2 := blk_frozen BK320.out 2
  have hfz16_3 := blk_frozen BK320.out 3
  go_wp2_with (first | ((with_reducible refine gate_callee (f := 27) rfl ?_); refine goesL_ (some 28) rfl rfl Try.func27 (by kernel_rfl) rfl #[.agg #[.int .i64 a0_0, .int .i64 a0_1, .slice A0_2 l0_2.length c0_2, .slice A0_3 l0_3.length c0_3]] rfl (by (try simp only [List.map_toArray, List.map_cons, List.map_nil]); first | done | rfl) ?_; (with_reducible refine (loops_Loops.calls kj4 a0_0 a0_1 _ _ l0_2 _ _ l0_3 t323 _ ?side1 ?side2 ?side3 ?side4 A13.out).mono ?_); (case side1 => repeat (first | exact (C_below HR0_2.out HB.out) | (with_reducible refine C_alloc ?_ _) | (with_reducible refine C_drewN ?_ _) | (with_reducible refine C_drew ?_))); (case side2 => exact HC0_2.out); (case side3 => repeat (first | exact (C_below HR0_3.out HB.out) | (with_reducible refine C_alloc ?_ _) | (with_reducible refine C_drewN ?_ _) | (with_reducible refine C_drew ?_))); (case side4 => exact HC0_3.out); rintro e w17 ⟨v324, rfl, ho0, hb⟩; refine ⟨_, rfl, ?_⟩; have n0_ := Aside0.mk (Kd.S_lower ho0 (below_size (by repeat with_reducible first | exact HB.out | apply below_alloc | apply pw_below_drewN | apply below_drew1 | refine below_set ?_ GE320.out))); have n1_ := Aside0.mk (blk_below (g := gb320) (o := .cells #[.int .i64 a0_0, .int .i64 a0_1, .slice A0_2 l0_2.length c0_2, .slice A0_3 l0_3.length c0_3] 25 (0, 0)) (by (with_reducible repeat (first | refine blk_drewN ?_ _ | refine blk_drew ?_ | refine blk_alloc ?_ _)); exact BK320.out) hb); have n2_ := Aside0.mk (below_step (by repeat with_reducible first | exact HB.out | apply below_alloc | apply pw_below_drewN | apply below_drew1 | refine below_set ?_ GE320.out) hb); clear BK320; clear HB; have HO325 := n0_; have BK320 := n1_; have HB := n2_; clear n0_ n1_ n2_; (try clear hb); (try clear hb2); (try clear hk); (try clear hi); (try clear ho0); have hcz18_0 : w17.cell? ⟨gb320, 0, none⟩ = some (.int .i64 a0_0) := (blk_cell BK320.out 0).trans rfl; have hcz18_1 : w17.cell? ⟨gb320, 1, none⟩ = some (.int .i64 a0_1) := (blk_cell BK320.out 1).trans rfl; have hcz18_2 : w17.cell? ⟨gb320, 2, none⟩ = some (.slice A0_2 l0_2.length c0_2) := (blk_cell BK320.out 2).trans rfl; have hcz18_3 : w17.cell? ⟨gb320, 3, none⟩ = some (.slice A0_3 l0_3.length c0_3) := (blk_cell BK320.out 3).trans rfl; have hfz18_0 := blk_frozen BK320.out 0; have hfz18_1 := blk_frozen BK320.out 1; have hfz18_2 := blk_frozen BK320.out 2; have hfz18_3 := blk_frozen BK320.out 3) | ((with_reducible refine gate_dst (N := 32) rfl ?_); (try (refine gate_guard (by rfl) ?_; dsimp only)); refine Kd.R_make Kd.bool _ 4 rfl (N := 32) rfl 34 _ _ rfl (l0_3.length : Int) rfl rfl Try.underlying34 (.bool false) 1 info4 rfl (by decide) (by omega) false (ok := fun _ => True) (okp := fun _ => True) rfl (fun _ hk => hk) trivial (of_decide_eq_true (by with_reducible assumption)) (Nat.le_trans (Nat.mul_le_mul_right _ (of_decide_eq_true (by with_reducible assumption) : (l0_3.length : Int).toNat ≤ 281474976710656)) (by omega)) (Below.refl _ _) (Nat.le_refl _) ?_; intro v327 w19 ho20 hb hg_ hnew_; clear hg_ hnew_; rw [← Ny326.out] at ho20; have n0_ := Aside0.mk (Kd.S_below (by (with_reducible repeat (first | apply S_alloc | apply S_drewN | apply S_drew)); exact HO325.out) hb); have n1_ := Aside0.mk (Kd.R_lower ho20 (below_size (by repeat with_reducible first | exact HB.out | apply below_alloc | apply pw_below_drewN | apply below_drew1 | refine below_set ?_ GE320.out))); have n2_ := Aside0.mk (blk_below (g := gb320) (o := .cells #[.int .i64 a0_0, .int .i64 a0_1, .slice A0_2 l0_2.length c0_2, .slice A0_3 l0_3.length c0_3] 25 (0, 0)) (by (with_reducible repeat (first | refine blk_drewN ?_ _ | refine blk_drew ?_ | refine blk_alloc ?_ _)); exact BK320.out) hb); have n3_ := Aside0.mk (below_step (by repeat with_reducible first | exact HB.out | apply below_alloc | apply pw_below_drewN | apply below_drew1 | refine below_set ?_ GE320.out) hb); clear HO325; clear BK320; clear HB; have HO325 := n0_; have HO328 := n1_; have BK320 := n2_; have HB := n3_; clear n0_ n1_ n2_ n3_; clear hb ho20))
  go_loopg [9, 10] kj4 (fun kq v9 v10 w' => ∃ (x8_2 : List Bool) (x9_2 : Int) (x10_2 : Int), v9 = .int .i64 x9_2 ∧ v10 = .int .i64 x10_2 ∧ Aside0 (fettlelaw07_LoopsPaths.l0 kq l1 t321 t323 x8_2 x9_2 x10_2 a0_0 a0_1 l0_2 l0_3 = some r) ∧ Aside0 (kq ≤ kj4) ∧ Aside0 (Kd.S k44 44 w' w.heap.size (fun _ => True) v324 t323) ∧ Aside0 (Kd.R Kd.bool 4 w' w.heap.size (fun _ => True) v327 x8_2) ∧ Aside0 (w'.heap[gb320]? = some (.cells #[.int .i64 a0_0, .int .i64 a0_1, (.slice A0_2 l0_2.length c0_2), (.slice A0_3 l0_3.length c0_3)] 25 (0, 0))) ∧ Aside0 (Below w.heap.size w w'))
  case atStart => exact ⟨(y326), (0), (0), (by first | rfl | (simp; done) | (simp [*]; done)), (by first | rfl | (simp; done) | (simp [*]; done)), H', ⟨Nat.le_refl _⟩, ⟨by (with_reducible repeat (first | apply S_alloc | apply S_drewN | apply S_drew)); exact HO325.out⟩, ⟨by (with_reducible repeat (first | apply R_alloc | apply R_drewN | apply R_drew)); exact HO328.out⟩, ⟨by (with_reducible repeat (first | refine blk_drewN ?_ _ | refine blk_drew ?_ | refine blk_alloc ?_ _)); exact BK320.out⟩, ⟨by repeat (first | (with_reducible first | exact HB.out | apply below_alloc | apply pw_below_drewN | apply below_drew1 | refine below_set ?_ GE320.out) | exact HB.out)⟩⟩
  clear H'
  try clear c1
  try clear c2
  try clear p2
  try clear c9
  try clear c10
  try clear c12
  try clear c14
  try clear c14b0
  try clear c14b1
  try clear c15
  try clear c15b0
  try clear c15b1
  try clear hcz11_0
  try clear hcz11_1
  try clear hcz11_2
  try clear hcz11_3
  try clear hcz16_0
  try clear hcz16_1
  try clear hcz16_2
  try clear hcz16_3
  try clear hcz18_0
  try clear hcz18_1
  try clear hcz18_2
  try clear hcz18_3
  try clear hcz8_0
  try clear hcz8_1
  try clear hcz8_2
  try clear hcz8_3
  try clear hfz11_0
  try clear hfz11_1
  try clear hfz11_2
  try clear hfz11_3
  try clear hfz16_0
  try clear hfz16_1
  try clear hfz16_2
  try clear hfz16_3
  try clear hfz18_0
  try clear hfz18_1
  try clear hfz18_2
  try clear hfz18_3
  try clear hfz8_0
  try clear hfz8_1
  try clear hfz8_2
  try clear hfz8_3
  try clear p2
  obtain ⟨x8_2, x9_2, x10_2, rfl, rfl, HA, HK2, HO_7, HO_8, BK320, HB⟩ := hrel
  rcases gk with _ | k2
  · exact absurd HA.out (by simp [fettlelaw07_LoopsPaths.l0])
  have H := HA.out
  clear HA
  simp only [fettlelaw07_LoopsPaths.l0] at H
  have HC21 := Aside0.mk H
  clear H
  go_upto_region 9 with (fail)
  go_cut [40] (fun v40 wc => ∃ (kq : Nat) (x40_20 : Bool), v40 = .bool x40_20 ∧ Aside0 (fettlelaw07_LoopsPaths.j2 kq l1 t321 t323 x8_2 x9_2 x10_2 x40_20 a0_0 a0_1 l0_2 l0_3 = some r) ∧ Aside0 (kq ≤ k2) ∧ Aside0 (Kd.S k44 44 wc w.heap.size (fun _ => True) v324 t323) ∧ Aside0 (Kd.R Kd.bool 4 wc w.heap.size (fun _ => True) v327 x8_2) ∧ Aside0 (wc.heap[gb320]? = some (.cells #[.int .i64 a0_0, .int .i64 a0_1, (.slice A0_2 l0_2.length c0_2), (.slice A0_3 l0_3.length c0_3)] 25 (0, 0))) ∧ Aside0 (Below w.heap.size w wc))
  case first =>
    have H := HC21.out
    clear HC21
    by_cases c22 : x10_2 ≤ (l1.length : Int)
    · rw [if_pos c22] at H
      have c22b0 : decide (x10_2 ≤ (l1.length : Int)) = true := decide_eq_true c22
      clear c22
      (first | rw [c22b0] | (simp only [i64_w, i32_w]; rw [c22b0]) | skip)
      have H' := Aside0.mk H
      clear H
      go_wp2
      go_meet
      case rel => exact ⟨_, (decide (x10_2 < 60)), (by first | rfl | (simp; done) | (simp [*]; done)), H', ⟨by have := HJ4.out; have := HK2.out; first | omega | exact Nat.le_refl _⟩, ⟨by (with_reducible repeat (first | apply S_alloc | apply S_drewN | apply S_drew)); exact HO_7.out⟩, ⟨by (with_reducible repeat (first | apply R_alloc | apply R_drewN | apply R_drew)); exact HO_8.out⟩, ⟨by (with_reducible repeat (first | refine blk_drewN ?_ _ | refine blk_drew ?_ | refine blk_alloc ?_ _)); exact BK320.out⟩, ⟨by repeat (first | (with_reducible first | exact HB.out | apply below_alloc | apply pw_below_drewN | apply below_drew1 | refine below_set ?_ GE320.out) | exact HB.out)⟩⟩
    rw [if_neg c22] at H
    have c22b0 : decide (x10_2 ≤ (l1.length : Int)) = false := decide_eq_false c22
    clear c22
    (first | rw [c22b0] | (simp only [i64_w, i32_w]; rw [c22b0]) | skip)
    have H' := Aside0.mk H
    clear H
    go_wp2
    go_meet
    case rel => exact ⟨_, (false), (by first | rfl | (simp; done) | (simp [*]; done)), H', ⟨by have := HJ4.out; have := HK2.out; first | omega | exact Nat.le_refl _⟩, ⟨by (with_reducible repeat (first | apply S_alloc | apply S_drewN | apply S_drew)); exact HO_7.out⟩, ⟨by (with_reducible repeat (first | apply R_alloc | apply R_drewN | apply R_drew)); exact HO_8.out⟩, ⟨by (with_reducible repeat (first | refine blk_drewN ?_ _ | refine blk_drew ?_ | refine blk_alloc ?_ _)); exact BK320.out⟩, ⟨by repeat (first | (with_reducible first | exact HB.out | apply below_alloc | apply pw_below_drewN | apply below_drew1 | refine below_set ?_ GE320.out) | exact HB.out)⟩⟩
  clear HC21
  try clear c1
  try clear c2
  try clear p2
  try clear c9
  try clear c10
  try clear c12
  try clear c14
  try clear c14b0
  try clear c14b1
  try clear c15
  try clear c15b0
  try clear c15b1
  try clear c22
  try clear c22b0
  try clear hcz11_0
  try clear hcz11_1
  try clear hcz11_2
  try clear hcz11_3
  try clear hcz16_0
  try clear hcz16_1
  try clear hcz16_2
  try clear hcz16_3
  try clear hcz18_0
  try clear hcz18_1
  try clear hcz18_2
  try clear hcz18_3
  try clear hcz8_0
  try clear hcz8_1
  try clear hcz8_2
  try clear hcz8_3
  try clear hfz11_0
  try clear hfz11_1
  try clear hfz11_2
  try clear hfz11_3
  try clear hfz16_0
  try clear hfz16_1
  try clear hfz16_2
  try clear hfz16_3
  try clear hfz18_0
  try clear hfz18_1
  try clear hfz18_2
  try clear hfz18_3
  try clear hfz8_0
  try clear hfz8_1
  try clear hfz8_2
  try clear hfz8_3
  try clear p2
  obtain ⟨kq, x40_20, rfl, HA, HJ20, HO_7, HO_8, BK320, HB⟩ := hcut
  rcases kq with _ | kj20
  · exact absurd HA.out (by simp [fettlelaw07_LoopsPaths.j2])
  have H := HA.out
  clear HA
  simp only [fettlelaw07_LoopsPaths.j2] at H
  by_cases c23 : x40_20 = true
  · subst c23
    have H1 : (if 0 ≤ x9_2 then (if x9_2 < (x8_2.length : Int) then (fettlelaw07_LoopsPaths.l1 kj20 l1 t321 t323 (x8_2.set (x9_2 : Int).toNat true) x9_2 x10_2 0 a0_0 a0_1 l0_2 l0_3) else (none)) else (none)) = some r := by rw [if_pos rfl] at H; exact H
    clear H
    have H := H1
    clear H1
    by_cases c24 : 0 ≤ x9_2
    rotate_left
    · rw [if_neg c24] at H
      exact absurd H (by simp)
    rw [if_pos c24] at H
    have c24b0 : decide (0 ≤ x9_2) = true := decide_eq_true c24
    clear c24
    by_cases c25 : x9_2 < (x8_2.length : Int)
    rotate_left
    · rw [if_neg c25] at H
      exact absurd H (by simp)
    rw [if_pos c25] at H
    have c25b0 : decide (x9_2 < (x8_2.length : Int)) = true := decide_eq_true c25
    clear c25
    obtain ⟨y329, hy329⟩ : ∃ y_ : List Bool, y_ = (x8_2.set (x9_2 : Int).toNat true) := ⟨_, rfl⟩
    replace H : (fettlelaw07_LoopsPaths.l1 kj20 l1 t321 t323 y329 x9_2 x10_2 0 a0_0 a0_1 l0_2 l0_3) = some r := by first | (rw [hy329]; with_reducible exact H) | (have H2_ := (Option.bind_some _ _).symm.trans H; rw [hy329]; with_reducible exact H2_) | exact H
    have Ny329 := Aside0.mk hy329
    clear hy329
    have H' := Aside0.mk H
    clear H
    have p26 : 0 ≤ (x9_2 : Int) := of_decide_eq_true (by with_reducible assumption)
    have q26 : (x9_2 : Int) < ((x8_2.length : Int) : Int) := of_decide_eq_true (by with_reducible assumption)
    obtain ⟨go26, co26, eo26, gb26, gl26, cl26, HG26⟩ := Kd.R_form HO_8.out (by omega)
    (first | cases eo26 | (injection eo26 with ea_ en_ ec_; (first | subst ea_ | (injection ea_ with ea_; subst ea_)); subst ec_; clear en_))
    have GB26 := Aside0.mk gb26
    have GG26 := Aside0.mk HG26
    clear gb26 gl26 HG26
    obtain ⟨hx26_0, hf26_0⟩ := Kd.R_celln false HO_8.out (x9_2 : Int) p26 q26
    replace p26 := eq_true p26
    replace q26 := eq_true q26
    have HP27 := Kd.R_putg HO_8.out (x9_2 : Int) true
    go_wp2_with (first | ((with_reducible refine gate_store (t := 4) (p := 45) rfl ?_); refine store_event (t := 4) (p := 45) (v := ?vo_w28) (w1 := (wc.setCell ⟨go26, (x9_2 : Int).toNat, none⟩ (.bool true))) ?hg ?ho ?hn ?hr ?_; (case ho => rfl); (case hg => rfl); (case hn => rfl); (case hr => first | (go_simp; done) | (go_simp; rfl)); intro w28 hw; have hg : wc.grownBy w28 (some go26) := (by rw [hw]; exact HP27.2); have hp_ : Kd.R Kd.bool 4 w28 w.heap.size (fun _ => True) (.slice (some ⟨go26, 0, none⟩) x8_2.length co26) y329 := (by rw [hw, Ny329.out]; exact HP27.1); clear HP27; have n0_ := Aside0.mk (Kd.S_over' (v := (.slice (some ⟨go26, 0, none⟩) x8_2.length co26)) (by (with_reducible repeat (first | apply S_alloc | apply S_drewN | apply S_drew)); exact HO_7.out) (Kd.R_typed HO_8.out) (by decide) hg); have n1_ := Aside0.mk (hp_); have n2_ := Aside0.mk (blk_grown (g := gb320) (o := .cells #[.int .i64 a0_0, .int .i64 a0_1, .slice A0_2 l0_2.length c0_2, .slice A0_3 l0_3.length c0_3] 25 (0, 0)) (by (with_reducible repeat (first | refine blk_drewN ?_ _ | refine blk_drew ?_ | refine blk_alloc ?_ _)); exact BK320.out) hg (Kd.R_ne HO_8.out BK320.out (by decide))); have n3_ := Aside0.mk ((by rw [hw]; exact below_set (HB.out) GB26.out : Below w.heap.size w w28)); clear HO_7; clear HO_8; clear BK320; clear HB; have HO_7 := n0_; have HO_8 := n1_; have BK320 := n2_; have HB := n3_; clear n0_ n1_ n2_ n3_; clear hg hw hp_))
    go_loopg [11] kj20 (fun kq v11 w' => ∃ (x11_4 : Int), v11 = .int .i64 x11_4 ∧ Aside0 (fettlelaw07_LoopsPaths.l1 kq l1 t321 t323 y329 x9_2 x10_2 x11_4 a0_0 a0_1 l0_2 l0_3 = some r) ∧ Aside0 (kq ≤ kj20) ∧ Aside0 (Kd.S k44 44 w' w.heap.size (fun _ => True) v324 t323) ∧ Aside0 (Kd.R Kd.bool 4 w' w.heap.size (fun _ => True) (.slice (some ⟨go26, 0, none⟩) x8_2.length co26) y329) ∧ Aside0 (w'.heap[gb320]? = some (.cells #[.int .i64 a0_0, .int .i64 a0_1, (.slice A0_2 l0_2.length c0_2), (.slice A0_3 l0_3.length c0_3)] 25 (0, 0))) ∧ Aside0 (Below w.heap.size w w'))
    case atStart => exact ⟨(0), (by first | rfl | (simp; done) | (simp [*]; done)), H', ⟨Nat.le_refl _⟩, ⟨by (with_reducible repeat (first | apply S_alloc | apply S_drewN | apply S_drew)); exact HO_7.out⟩, ⟨by (with_reducible repeat (first | apply R_alloc | apply R_drewN | apply R_drew)); exact HO_8.out⟩, ⟨by (with_reducible repeat (first | refine blk_drewN ?_ _ | refine blk_drew ?_ | refine blk_alloc ?_ _)); exact BK320.out⟩, ⟨by repeat (first | (with_reducible first | exact HB.out | apply below_alloc | apply pw_below_drewN | apply below_drew1 | refine below_set ?_ GE320.out) | exact HB.out)⟩⟩
    clear H'
    try clear c1
    try clear c2
    try clear p2
    try clear q2
    try clear hx2
    try clear hf2
    try clear c9
    try clear c10
    try clear c12
    try clear c14
    try clear c14b0
    try clear c14b1
    try clear c15
    try clear c15b0
    try clear c15b1
    try clear c22
    try clear c22b0
    try clear c23
    try clear c24
    try clear c24b0
    try clear c25
    try clear c25b0
    try clear c26
    try clear p26
    try clear q26
    try clear hx26
    try clear hf26
    try clear c27
    try clear hcz11_0
    try clear hcz11_1
    try clear hcz11_2
    try clear hcz11_3
    try clear hcz16_0
    try clear hcz16_1
    try clear hcz16_2
    try clear hcz16_3
    try clear hcz18_0
    try clear hcz18_1
    try clear hcz18_2
    try clear hcz18_3
    try clear hcz8_0
    try clear hcz8_1
    try clear hcz8_2
    try clear hcz8_3
    try clear hfz11_0
    try clear hfz11_1
    try clear hfz11_2
    try clear hfz11_3
    try clear hfz16_0
    try clear hfz16_1
    try clear hfz16_2
    try clear hfz16_3
    try clear hfz18_0
    try clear hfz18_1
    try clear hfz18_2
    try clear hfz18_3
    try clear hfz8_0
    try clear hfz8_1
    try clear hfz8_2
    try clear hfz8_3
    try clear hx26_0
    try clear p2
    try clear p26
    try clear q26
    obtain ⟨x11_4, rfl, HA, HK4, HO_7, HO_8, BK320, HB⟩ := hrel
    have hl8_4 := (R_reads' HO_8.out).1
    rw [hl8_4] at HO_8
    (try simp only [hl8_4])
    (try simp only [hl8_4] at BK320)
    (try simp only [hl8_4] at HO_7)
    rcases gk with _ | k4
    · exact absurd HA.out (by simp [fettlelaw07_LoopsPaths.l1])
    have H := HA.out
    clear HA
    simp only [fettlelaw07_LoopsPaths.l1] at H
    by_cases c29 : x11_4 < (t323.length : Int)
    · rw [if_pos c29] at H
      have c29b0 : decide (x11_4 < (t323.length : Int)) = true := decide_eq_true c29
      have c29b0l := c29b0
      (try simp only [hl8_4] at c29b0l)
      clear c29
      by_cases c30 : 0 ≤ x11_4
      rotate_left
      · rw [if_neg c30] at H
        exact absurd H (by simp)
      rw [if_pos c30] at H
      have c30b0 : decide (0 ≤ x11_4) = true := decide_eq_true c30
      clear c30
      replace H := Option.bind_eq_some_iff.mp H
      obtain ⟨t331, A310, H⟩ := H
      replace H : (if ((rd_T44 t323 x11_4).f0) < 0 then (some false) else (if ((rd_T44 t323 x11_4).f0) ≥ (y329.length : Int) then (some false) else (if t331 = true then (if 0 ≤ ((rd_T44 t323 x11_4).f0) then (if ((rd_T44 t323 x11_4).f0) < (y329.length : Int) then (if (rdOf false y329 ((rd_T44 t323 x11_4).f0) = true) then (fettlelaw07_LoopsPaths.l1 k4 l1 t321 t323 y329 x9_2 x10_2 (wrap64 (x11_4 + 1)) a0_0 a0_1 l0_2 l0_3) else (some false)) else (none)) else (none)) else (fettlelaw07_LoopsPaths.l1 k4 l1 t321 t323 y329 x9_2 x10_2 (wrap64 (x11_4 + 1)) a0_0 a0_1 l0_2 l0_3)))) = some r := H
      have A31 := Aside0.mk A310
      clear A310
      by_cases c32 : ((rd_T44 t323 x11_4).f0) < 0
      · rw [if_pos c32] at H
        have c32b0 : decide (((rd_T44 t323 x11_4).f0) < 0) = true := decide_eq_true c32
        clear c32
        obtain rfl := Option.some.inj H
        obtain ⟨Ao33, co33, eo33⟩ := Kd.S_slice HO_7.out
        subst eo33
        have p330 : 0 ≤ (x11_4 : Int) := of_decide_eq_true (by with_reducible assumption)
        have q330 : x11_4 < (t323.length : Int) := of_decide_eq_true (by with_reducible assumption)
        obtain ⟨ad330, A330_1, c330_1, A330_2, c330_2, e330, hx330_0, hx330_1, hx330_2, hl330_1, hi330_1, hl330_2, hi330_2⟩ := at_T44 (S_reads' HO_7.out).2.2 x11_4 p330 q330
        cases e330
        obtain ⟨ce330, hce330, hMe330, hcc330⟩ := S_get HO_7.out z44 x11_4 p330 (by first | exact q330 | exact of_decide_eq_true (by with_reducible assumption) | (have e_ := (S_reads' HO_7.out).1; omega))
        obtain ⟨ve330_1, ve330_2, rfl, ge330_1, ge330_2⟩ := k44_openM hMe330
        have hv330_1 := hcc330 1 _ rfl
        rw [add_field _ _ 1 (by omega)] at hv330_1
        replace hv330_1 := Option.some.inj (hv330_1.symm.trans hx330_1)
        rw [hv330_1] at ge330_1
        have HL330_1 := Aside0.mk (show Kd.R (Kd.int .i64) 3 _ _ _ _ ((rd_T44 t323 x11_4).f1) from ge330_1)
        clear hv330_1 ge330_1
        have hv330_2 := hcc330 2 _ rfl
        rw [add_field _ _ 2 (by omega)] at hv330_2
        replace hv330_2 := Option.some.inj (hv330_2.symm.trans hx330_2)
        rw [hv330_2] at ge330_2
        have HL330_2 := Aside0.mk (show Kd.R (Kd.int .i64) 3 _ _ _ _ ((rd_T44 t323 x11_4).f2) from ge330_2)
        clear hv330_2 ge330_2
        clear hcc330 hce330
        have HR330_1 := Aside0.mk hi330_1
        have HC330_1 := Aside0.mk hl330_1
        clear hi330_1 hl330_1
        have HR330_2 := Aside0.mk hi330_2
        have HC330_2 := Aside0.mk hl330_2
        clear hi330_2 hl330_2
        replace p330 := eq_true p330
        replace q330 := eq_true q330
        go_wp2_with (first | ((with_reducible refine gate_callee (f := 28) rfl ?_); refine goesL_ (some 58) rfl rfl Try.func28 (by kernel_rfl) rfl #[.slice A330_1 ((rd_T44 t323 x11_4).f1).length c330_1, .int .i64 x9_2] rfl (by (try simp only [List.map_toArray, List.map_cons, List.map_nil]); first | done | rfl) ?_; (with_reducible refine (fettlelaw07_has.calls k4 _ _ ((rd_T44 t323 x11_4).f1) x9_2 t331 _ ?side1 ?side2 A31.out).mono ?_); (case side1 => repeat (first | exact (by repeat with_reducible first | exact HR330_1.out | refine C_alloc ?_ _ | refine C_drewN ?_ _ | refine C_drew ?_) | (with_reducible refine C_alloc ?_ _) | (with_reducible refine C_drewN ?_ _) | (with_reducible refine C_drew ?_))); (case side2 => exact HC330_1.out); rintro e w' ⟨rfl, ⟨nd, rfl⟩⟩; refine ⟨_, rfl, ?_⟩; have p332 : 0 ≤ (x11_4 : Int) := of_decide_eq_true (by with_reducible assumption); have q332 : x11_4 < (t323.length : Int) := of_decide_eq_true (by with_reducible assumption); obtain ⟨ad332, A332_1, c332_1, A332_2, c332_2, e332, hx332_0, hx332_1, hx332_2, hl332_1, hi332_1, hl332_2, hi332_2⟩ := at_T44 (S_reads' HO_7.out).2.2 x11_4 p332 q332; obtain rfl : ad330 = ad332 := (by injection e332); obtain ⟨ce332, hce332, hMe332, hcc332⟩ := S_get HO_7.out z44 x11_4 p332 (by first | exact q332 | exact of_decide_eq_true (by with_reducible assumption) | (have e_ := (S_reads' HO_7.out).1; omega)); obtain ⟨ve332_1, ve332_2, rfl, ge332_1, ge332_2⟩ := k44_openM hMe332; have hv332_1 := hcc332 1 _ rfl; rw [add_field _ _ 1 (by omega)] at hv332_1; replace hv332_1 := Option.some.inj (hv332_1.symm.trans hx332_1); rw [hv332_1] at ge332_1; have HL332_1 := Aside0.mk (show Kd.R (Kd.int .i64) 3 _ _ _ _ ((rd_T44 t323 x11_4).f1) from ge332_1); clear hv332_1 ge332_1; have hv332_2 := hcc332 2 _ rfl; rw [add_field _ _ 2 (by omega)] at hv332_2; replace hv332_2 := Option.some.inj (hv332_2.symm.trans hx332_2); rw [hv332_2] at ge332_2; have HL332_2 := Aside0.mk (show Kd.R (Kd.int .i64) 3 _ _ _ _ ((rd_T44 t323 x11_4).f2) from ge332_2); clear hv332_2 ge332_2; clear hcc332 hce332; have HR332_1 := Aside0.mk hi332_1; have HC332_1 := Aside0.mk hl332_1; clear hi332_1 hl332_1; have HR332_2 := Aside0.mk hi332_2; have HC332_2 := Aside0.mk hl332_2; clear hi332_2 hl332_2; replace p332 := eq_true p332; replace q332 := eq_true q332; have ea_ := Option.some.inj (hx330_1.symm.trans hx332_1); injection ea_ with ea_ en_ ec_; subst ea_; subst ec_; clear en_; have ea_ := Option.some.inj (hx330_2.symm.trans hx332_2); injection ea_ with ea_ en_ ec_; subst ea_; subst ec_; clear en_))
        go_ret
        exact ⟨by first | rfl | (simp [errW_none, errW_some] <;> rfl) | (simp [*, errW_none, errW_some] <;> rfl), by repeat (first | (with_reducible first | exact HB.out | apply below_alloc | apply pw_below_drewN | apply below_drew1 | refine below_set ?_ GE320.out) | exact HB.out)⟩
      rw [if_neg c32] at H
      have c32b0 : decide (((rd_T44 t323 x11_4).f0) < 0) = false := decide_eq_false c32
      clear c32
      by_cases c34 : ((rd_T44 t323 x11_4).f0) ≥ (y329.length : Int)
      · rw [if_pos c34] at H
        have c34b0 : decide ((y329.length : Int) ≤ ((rd_T44 t323 x11_4).f0)) = true := decide_eq_true c34
        clear c34
        obtain rfl := Option.some.inj H
        obtain ⟨Ao35, co35, eo35⟩ := Kd.S_slice HO_7.out
        subst eo35
        have p330 : 0 ≤ (x11_4 : Int) := of_decide_eq_true (by with_reducible assumption)
        have q330 : x11_4 < (t323.length : Int) := of_decide_eq_true (by with_reducible assumption)
        obtain ⟨ad330, A330_1, c330_1, A330_2, c330_2, e330, hx330_0, hx330_1, hx330_2, hl330_1, hi330_1, hl330_2, hi330_2⟩ := at_T44 (S_reads' HO_7.out).2.2 x11_4 p330 q330
        cases e330
        obtain ⟨ce330, hce330, hMe330, hcc330⟩ := S_get HO_7.out z44 x11_4 p330 (by first | exact q330 | exact of_decide_eq_true (by with_reducible assumption) | (have e_ := (S_reads' HO_7.out).1; omega))
        obtain ⟨ve330_1, ve330_2, rfl, ge330_1, ge330_2⟩ := k44_openM hMe330
        have hv330_1 := hcc330 1 _ rfl
        rw [add_field _ _ 1 (by omega)] at hv330_1
        replace hv330_1 := Option.some.inj (hv330_1.symm.trans hx330_1)
        rw [hv330_1] at ge330_1
        have HL330_1 := Aside0.mk (show Kd.R (Kd.int .i64) 3 _ _ _ _ ((rd_T44 t323 x11_4).f1) from ge330_1)
        clear hv330_1 ge330_1
        have hv330_2 := hcc330 2 _ rfl
        rw [add_field _ _ 2 (by omega)] at hv330_2
        replace hv330_2 := Option.some.inj (hv330_2.symm.trans hx330_2)
        rw [hv330_2] at ge330_2
        have HL330_2 := Aside0.mk (show Kd.R (Kd.int .i64) 3 _ _ _ _ ((rd_T44 t323 x11_4).f2) from ge330_2)
        clear hv330_2 ge330_2
        clear hcc330 hce330
        have HR330_1 := Aside0.mk hi330_1
        have HC330_1 := Aside0.mk hl330_1
        clear hi330_1 hl330_1
        have HR330_2 := Aside0.mk hi330_2
        have HC330_2 := Aside0.mk hl330_2
        clear hi330_2 hl330_2
        replace p330 := eq_true p330
        replace q330 := eq_true q330
        go_wp2_with (first | ((with_reducible refine gate_callee (f := 28) rfl ?_); refine goesL_ (some 58) rfl rfl Try.func28 (by kernel_rfl) rfl #[.slice A330_1 ((rd_T44 t323 x11_4).f1).length c330_1, .int .i64 x9_2] rfl (by (try simp only [List.map_toArray, List.map_cons, List.map_nil]); first | done | rfl) ?_; (with_reducible refine (fettlelaw07_has.calls k4 _ _ ((rd_T44 t323 x11_4).f1) x9_2 t331 _ ?side1 ?side2 A31.out).mono ?_); (case side1 => repeat (first | exact (by repeat with_reducible first | exact HR330_1.out | refine C_alloc ?_ _ | refine C_drewN ?_ _ | refine C_drew ?_) | (with_reducible refine C_alloc ?_ _) | (with_reducible refine C_drewN ?_ _) | (with_reducible refine C_drew ?_))); (case side2 => exact HC330_1.out); rintro e w' ⟨rfl, ⟨nd, rfl⟩⟩; refine ⟨_, rfl, ?_⟩; have p332 : 0 ≤ (x11_4 : Int) := of_decide_eq_true (by with_reducible assumption); have q332 : x11_4 < (t323.length : Int) := of_decide_eq_true (by with_reducible assumption); obtain ⟨ad332, A332_1, c332_1, A332_2, c332_2, e332, hx332_0, hx332_1, hx332_2, hl332_1, hi332_1, hl332_2, hi332_2⟩ := at_T44 (S_reads' HO_7.out).2.2 x11_4 p332 q332; obtain rfl : ad330 = ad332 := (by injection e332); obtain ⟨ce332, hce332, hMe332, hcc332⟩ := S_get HO_7.out z44 x11_4 p332 (by first | exact q332 | exact of_decide_eq_true (by with_reducible assumption) | (have e_ := (S_reads' HO_7.out).1; omega)); obtain ⟨ve332_1, ve332_2, rfl, ge332_1, ge332_2⟩ := k44_openM hMe332; have hv332_1 := hcc332 1 _ rfl; rw [add_field _ _ 1 (by omega)] at hv332_1; replace hv332_1 := Option.some.inj (hv332_1.symm.trans hx332_1); rw [hv332_1] at ge332_1; have HL332_1 := Aside0.mk (show Kd.R (Kd.int .i64) 3 _ _ _ _ ((rd_T44 t323 x11_4).f1) from ge332_1); clear hv332_1 ge332_1; have hv332_2 := hcc332 2 _ rfl; rw [add_field _ _ 2 (by omega)] at hv332_2; replace hv332_2 := Option.some.inj (hv332_2.symm.trans hx332_2); rw [hv332_2] at ge332_2; have HL332_2 := Aside0.mk (show Kd.R (Kd.int .i64) 3 _ _ _ _ ((rd_T44 t323 x11_4).f2) from ge332_2); clear hv332_2 ge332_2; clear hcc332 hce332; have HR332_1 := Aside0.mk hi332_1; have HC332_1 := Aside0.mk hl332_1; clear hi332_1 hl332_1; have HR332_2 := Aside0.mk hi332_2; have HC332_2 := Aside0.mk hl332_2; clear hi332_2 hl332_2; replace p332 := eq_true p332; replace q332 := eq_true q332; have ea_ := Option.some.inj (hx330_1.symm.trans hx332_1); injection ea_ with ea_ en_ ec_; subst ea_; subst ec_; clear en_; have ea_ := Option.some.inj (hx330_2.symm.trans hx332_2); injection ea_ with ea_ en_ ec_; subst ea_; subst ec_; clear en_; have p333 : 0 ≤ (x11_4 : Int) := of_decide_eq_true (by with_reducible assumption); have q333 : x11_4 < (t323.length : Int) := of_decide_eq_true (by with_reducible assumption); obtain ⟨ad333, A333_1, c333_1, A333_2, c333_2, e333, hx333_0, hx333_1, hx333_2, hl333_1, hi333_1, hl333_2, hi333_2⟩ := at_T44 (S_reads' HO_7.out).2.2 x11_4 p333 q333; obtain rfl : ad330 = ad333 := (by injection e333); obtain ⟨ce333, hce333, hMe333, hcc333⟩ := S_get HO_7.out z44 x11_4 p333 (by first | exact q333 | exact of_decide_eq_true (by with_reducible assumption) | (have e_ := (S_reads' HO_7.out).1; omega)); obtain ⟨ve333_1, ve333_2, rfl, ge333_1, ge333_2⟩ := k44_openM hMe333; have hv333_1 := hcc333 1 _ rfl; rw [add_field _ _ 1 (by omega)] at hv333_1; replace hv333_1 := Option.some.inj (hv333_1.symm.trans hx333_1); rw [hv333_1] at ge333_1; have HL333_1 := Aside0.mk (show Kd.R (Kd.int .i64) 3 _ _ _ _ ((rd_T44 t323 x11_4).f1) from ge333_1); clear hv333_1 ge333_1; have hv333_2 := hcc333 2 _ rfl; rw [add_field _ _ 2 (by omega)] at hv333_2; replace hv333_2 := Option.some.inj (hv333_2.symm.trans hx333_2); rw [hv333_2] at ge333_2; have HL333_2 := Aside0.mk (show Kd.R (Kd.int .i64) 3 _ _ _ _ ((rd_T44 t323 x11_4).f2) from ge333_2); clear hv333_2 ge333_2; clear hcc333 hce333; have HR333_1 := Aside0.mk hi333_1; have HC333_1 := Aside0.mk hl333_1; clear hi333_1 hl333_1; have HR333_2 := Aside0.mk hi333_2; have HC333_2 := Aside0.mk hl333_2; clear hi333_2 hl333_2; replace p333 := eq_true p333; replace q333 := eq_true q333; have ea_ := Option.some.inj (hx330_1.symm.trans hx333_1); injection ea_ with ea_ en_ ec_; subst ea_; subst ec_; clear en_; have ea_ := Option.some.inj (hx330_2.symm.trans hx333_2); injection ea_ with ea_ en_ ec_; subst ea_; subst ec_; clear en_))
        go_ret
        exact ⟨by first | rfl | (simp [errW_none, errW_some] <;> rfl) | (simp [*, errW_none, errW_some] <;> rfl), by repeat (first | (with_reducible first | exact HB.out | apply below_alloc | apply pw_below_drewN | apply below_drew1 | refine below_set ?_ GE320.out) | exact HB.out)⟩
      rw [if_neg c34] at H
      have c34b0 : decide ((y329.length : Int) ≤ ((rd_T44 t323 x11_4).f0)) = false := decide_eq_false c34
      clear c34
      by_cases c36 : t331 = true
      · subst c36
        have H1 : (if 0 ≤ ((rd_T44 t323 x11_4).f0) then (if ((rd_T44 t323 x11_4).f0) < (y329.length : Int) then (if (rdOf false y329 ((rd_T44 t323 x11_4).f0) = true) then (fettlelaw07_LoopsPaths.l1 k4 l1 t321 t323 y329 x9_2 x10_2 (wrap64 (x11_4 + 1)) a0_0 a0_1 l0_2 l0_3) else (some false)) else (none)) else (none)) = some r := by rw [if_pos rfl] at H; exact H
        clear H
        have H := H1
        clear H1
        by_cases c37 : 0 ≤ ((rd_T44 t323 x11_4).f0)
        rotate_left
        · rw [if_neg c37] at H
          exact absurd H (by simp)
        rw [if_pos c37] at H
        have c37b0 : decide (0 ≤ ((rd_T44 t323 x11_4).f0)) = true := decide_eq_true c37
        clear c37
        by_cases c38 : ((rd_T44 t323 x11_4).f0) < (y329.length : Int)
        rotate_left
        · rw [if_neg c38] at H
          exact absurd H (by simp)
        rw [if_pos c38] at H
        have c38b0 : decide (((rd_T44 t323 x11_4).f0) < (y329.length : Int)) = true := decide_eq_true c38
        have c38b0l := c38b0
        (try simp only [hl8_4] at c38b0l)
        clear c38
        obtain ⟨bq39, hbq39⟩ : ∃ b_ : Bool, b_ = (rdOf false y329 ((rd_T44 t323 x11_4).f0)) := ⟨_, rfl⟩
        replace H : (if (bq39 = true) then (fettlelaw07_LoopsPaths.l1 k4 l1 t321 t323 y329 x9_2 x10_2 (wrap64 (x11_4 + 1)) a0_0 a0_1 l0_2 l0_3) else (some false)) = some r := by rw [← hbq39] at H; exact H
        have Nbq39 := Aside0.mk hbq39
        clear hbq39
        by_cases c40 : (bq39 = true)
        · subst c40
          have H1 : (fettlelaw07_LoopsPaths.l1 k4 l1 t321 t323 y329 x9_2 x10_2 (wrap64 (x11_4 + 1)) a0_0 a0_1 l0_2 l0_3) = some r := by rw [if_pos rfl] at H; exact H
          clear H
          have H := H1
          clear H1
          have H' := Aside0.mk H
          clear H
          obtain ⟨Ao41, co41, eo41⟩ := Kd.S_slice HO_7.out
          subst eo41
          have p330 : 0 ≤ (x11_4 : Int) := of_decide_eq_true (by with_reducible assumption)
          have q330 : x11_4 < (t323.length : Int) := of_decide_eq_true (by with_reducible assumption)
          obtain ⟨ad330, A330_1, c330_1, A330_2, c330_2, e330, hx330_0, hx330_1, hx330_2, hl330_1, hi330_1, hl330_2, hi330_2⟩ := at_T44 (S_reads' HO_7.out).2.2 x11_4 p330 q330
          cases e330
          obtain ⟨ce330, hce330, hMe330, hcc330⟩ := S_get HO_7.out z44 x11_4 p330 (by first | exact q330 | exact of_decide_eq_true (by with_reducible assumption) | (have e_ := (S_reads' HO_7.out).1; omega))
          obtain ⟨ve330_1, ve330_2, rfl, ge330_1, ge330_2⟩ := k44_openM hMe330
          have hv330_1 := hcc330 1 _ rfl
          rw [add_field _ _ 1 (by omega)] at hv330_1
          replace hv330_1 := Option.some.inj (hv330_1.symm.trans hx330_1)
          rw [hv330_1] at ge330_1
          have HL330_1 := Aside0.mk (show Kd.R (Kd.int .i64) 3 _ _ _ _ ((rd_T44 t323 x11_4).f1) from ge330_1)
          clear hv330_1 ge330_1
          have hv330_2 := hcc330 2 _ rfl
          rw [add_field _ _ 2 (by omega)] at hv330_2
          replace hv330_2 := Option.some.inj (hv330_2.symm.trans hx330_2)
          rw [hv330_2] at ge330_2
          have HL330_2 := Aside0.mk (show Kd.R (Kd.int .i64) 3 _ _ _ _ ((rd_T44 t323 x11_4).f2) from ge330_2)
          clear hv330_2 ge330_2
          clear hcc330 hce330
          have HR330_1 := Aside0.mk hi330_1
          have HC330_1 := Aside0.mk hl330_1
          clear hi330_1 hl330_1
          have HR330_2 := Aside0.mk hi330_2
          have HC330_2 := Aside0.mk hl330_2
          clear hi330_2 hl330_2
          replace p330 := eq_true p330
          replace q330 := eq_true q330
          go_wp2_with (first | ((with_reducible refine gate_callee (f := 28) rfl ?_); refine goesL_ (some 58) rfl rfl Try.func28 (by kernel_rfl) rfl #[.slice A330_1 ((rd_T44 t323 x11_4).f1).length c330_1, .int .i64 x9_2] rfl (by (try simp only [List.map_toArray, List.map_cons, List.map_nil]); first | done | rfl) ?_; (with_reducible refine (fettlelaw07_has.calls k4 _ _ ((rd_T44 t323 x11_4).f1) x9_2 true _ ?side1 ?side2 A31.out).mono ?_); (case side1 => repeat (first | exact (by repeat with_reducible first | exact HR330_1.out | refine C_alloc ?_ _ | refine C_drewN ?_ _ | refine C_drew ?_) | (with_reducible refine C_alloc ?_ _) | (with_reducible refine C_drewN ?_ _) | (with_reducible refine C_drew ?_))); (case side2 => exact HC330_1.out); rintro e w' ⟨rfl, ⟨nd, rfl⟩⟩; refine ⟨_, rfl, ?_⟩; have p332 : 0 ≤ (x11_4 : Int) := of_decide_eq_true (by with_reducible assumption); have q332 : x11_4 < (t323.length : Int) := of_decide_eq_true (by with_reducible assumption); obtain ⟨ad332, A332_1, c332_1, A332_2, c332_2, e332, hx332_0, hx332_1, hx332_2, hl332_1, hi332_1, hl332_2, hi332_2⟩ := at_T44 (S_reads' HO_7.out).2.2 x11_4 p332 q332; obtain rfl : ad330 = ad332 := (by injection e332); obtain ⟨ce332, hce332, hMe332, hcc332⟩ := S_get HO_7.out z44 x11_4 p332 (by first | exact q332 | exact of_decide_eq_true (by with_reducible assumption) | (have e_ := (S_reads' HO_7.out).1; omega)); obtain ⟨ve332_1, ve332_2, rfl, ge332_1, ge332_2⟩ := k44_openM hMe332; have hv332_1 := hcc332 1 _ rfl; rw [add_field _ _ 1 (by omega)] at hv332_1; replace hv332_1 := Option.some.inj (hv332_1.symm.trans hx332_1); rw [hv332_1] at ge332_1; have HL332_1 := Aside0.mk (show Kd.R (Kd.int .i64) 3 _ _ _ _ ((rd_T44 t323 x11_4).f1) from ge332_1); clear hv332_1 ge332_1; have hv332_2 := hcc332 2 _ rfl; rw [add_field _ _ 2 (by omega)] at hv332_2; replace hv332_2 := Option.some.inj (hv332_2.symm.trans hx332_2); rw [hv332_2] at ge332_2; have HL332_2 := Aside0.mk (show Kd.R (Kd.int .i64) 3 _ _ _ _ ((rd_T44 t323 x11_4).f2) from ge332_2); clear hv332_2 ge332_2; clear hcc332 hce332; have HR332_1 := Aside0.mk hi332_1; have HC332_1 := Aside0.mk hl332_1; clear hi332_1 hl332_1; have HR332_2 := Aside0.mk hi332_2; have HC332_2 := Aside0.mk hl332_2; clear hi332_2 hl332_2; replace p332 := eq_true p332; replace q332 := eq_true q332; have ea_ := Option.some.inj (hx330_1.symm.trans hx332_1); injection ea_ with ea_ en_ ec_; subst ea_; subst ec_; clear en_; have ea_ := Option.some.inj (hx330_2.symm.trans hx332_2); injection ea_ with ea_ en_ ec_; subst ea_; subst ec_; clear en_; have p333 : 0 ≤ (x11_4 : Int) := of_decide_eq_true (by with_reducible assumption); have q333 : x11_4 < (t323.length : Int) := of_decide_eq_true (by with_reducible assumption); obtain ⟨ad333, A333_1, c333_1, A333_2, c333_2, e333, hx333_0, hx333_1, hx333_2, hl333_1, hi333_1, hl333_2, hi333_2⟩ := at_T44 (S_reads' HO_7.out).2.2 x11_4 p333 q333; obtain rfl : ad330 = ad333 := (by injection e333); obtain ⟨ce333, hce333, hMe333, hcc333⟩ := S_get HO_7.out z44 x11_4 p333 (by first | exact q333 | exact of_decide_eq_true (by with_reducible assumption) | (have e_ := (S_reads' HO_7.out).1; omega)); obtain ⟨ve333_1, ve333_2, rfl, ge333_1, ge333_2⟩ := k44_openM hMe333; have hv333_1 := hcc333 1 _ rfl; rw [add_field _ _ 1 (by omega)] at hv333_1; replace hv333_1 := Option.some.inj (hv333_1.symm.trans hx333_1); rw [hv333_1] at ge333_1; have HL333_1 := Aside0.mk (show Kd.R (Kd.int .i64) 3 _ _ _ _ ((rd_T44 t323 x11_4).f1) from ge333_1); clear hv333_1 ge333_1; have hv333_2 := hcc333 2 _ rfl; rw [add_field _ _ 2 (by omega)] at hv333_2; replace hv333_2 := Option.some.inj (hv333_2.symm.trans hx333_2); rw [hv333_2] at ge333_2; have HL333_2 := Aside0.mk (show Kd.R (Kd.int .i64) 3 _ _ _ _ ((rd_T44 t323 x11_4).f2) from ge333_2); clear hv333_2 ge333_2; clear hcc333 hce333; have HR333_1 := Aside0.mk hi333_1; have HC333_1 := Aside0.mk hl333_1; clear hi333_1 hl333_1; have HR333_2 := Aside0.mk hi333_2; have HC333_2 := Aside0.mk hl333_2; clear hi333_2 hl333_2; replace p333 := eq_true p333; replace q333 := eq_true q333; have ea_ := Option.some.inj (hx330_1.symm.trans hx333_1); injection ea_ with ea_ en_ ec_; subst ea_; subst ec_; clear en_; have ea_ := Option.some.inj (hx330_2.symm.trans hx333_2); injection ea_ with ea_ en_ ec_; subst ea_; subst ec_; clear en_; have p334 : 0 ≤ (x11_4 : Int) := of_decide_eq_true (by with_reducible assumption); have q334 : x11_4 < (t323.length : Int) := of_decide_eq_true (by with_reducible assumption); obtain ⟨ad334, A334_1, c334_1, A334_2, c334_2, e334, hx334_0, hx334_1, hx334_2, hl334_1, hi334_1, hl334_2, hi334_2⟩ := at_T44 (S_reads' HO_7.out).2.2 x11_4 p334 q334; obtain rfl : ad330 = ad334 := (by injection e334); obtain ⟨ce334, hce334, hMe334, hcc334⟩ := S_get HO_7.out z44 x11_4 p334 (by first | exact q334 | exact of_decide_eq_true (by with_reducible assumption) | (have e_ := (S_reads' HO_7.out).1; omega)); obtain ⟨ve334_1, ve334_2, rfl, ge334_1, ge334_2⟩ := k44_openM hMe334; have hv334_1 := hcc334 1 _ rfl; rw [add_field _ _ 1 (by omega)] at hv334_1; replace hv334_1 := Option.some.inj (hv334_1.symm.trans hx334_1); rw [hv334_1] at ge334_1; have HL334_1 := Aside0.mk (show Kd.R (Kd.int .i64) 3 _ _ _ _ ((rd_T44 t323 x11_4).f1) from ge334_1); clear hv334_1 ge334_1; have hv334_2 := hcc334 2 _ rfl; rw [add_field _ _ 2 (by omega)] at hv334_2; replace hv334_2 := Option.some.inj (hv334_2.symm.trans hx334_2); rw [hv334_2] at ge334_2; have HL334_2 := Aside0.mk (show Kd.R (Kd.int .i64) 3 _ _ _ _ ((rd_T44 t323 x11_4).f2) from ge334_2); clear hv334_2 ge334_2; clear hcc334 hce334; have HR334_1 := Aside0.mk hi334_1; have HC334_1 := Aside0.mk hl334_1; clear hi334_1 hl334_1; have HR334_2 := Aside0.mk hi334_2; have HC334_2 := Aside0.mk hl334_2; clear hi334_2 hl334_2; replace p334 := eq_true p334; replace q334 := eq_true q334; have ea_ := Option.some.inj (hx330_1.symm.trans hx334_1); injection ea_ with ea_ en_ ec_; subst ea_; subst ec_; clear en_; have ea_ := Option.some.inj (hx330_2.symm.trans hx334_2); injection ea_ with ea_ en_ ec_; subst ea_; subst ec_; clear en_; have p335 : 0 ≤ (((rd_T44 t323 x11_4).f0) : Int) := of_decide_eq_true (by with_reducible assumption); have q335 : ((rd_T44 t323 x11_4).f0) < (y329.length : Int) := of_decide_eq_true (by with_reducible assumption); obtain ⟨ad335, e335, hx335_0⟩ := Kd.at_bool (R_reads' HO_8.out).2.2 ((rd_T44 t323 x11_4).f0) p335 q335; (try rw [← Nbq39.out] at hx335_0); obtain rfl : (⟨go26, 0, none⟩ : Addr) = ad335 := (by injection e335); (first | simp only [add_plain] at hx335_0 | simp only [add_at] at hx335_0 | simp only [Addr.add, Nat.zero_add] at hx335_0 | skip); replace p335 := eq_true p335; replace q335 := eq_true q335))
          (try simp only [← hl8_4])
          go_roundg k4
          case measure => have := HJ4.out; have := HK2.out; have := HJ20.out; have := HK4.out; omega
          case rel => exact ⟨(wrap64 (x11_4 + 1)), (by first | rfl | (simp; done) | (simp [*]; done)), H', ⟨by have := HJ4.out; have := HK2.out; have := HJ20.out; have := HK4.out; omega⟩, ⟨by (try simp only [hl8_4]); (with_reducible repeat (first | apply S_alloc | apply S_drewN | apply S_drew)); exact HO_7.out⟩, ⟨by (try simp only [hl8_4]); (with_reducible repeat (first | apply R_alloc | apply R_drewN | apply R_drew)); exact HO_8.out⟩, ⟨by (try simp only [hl8_4]); (with_reducible repeat (first | refine blk_drewN ?_ _ | refine blk_drew ?_ | refine blk_alloc ?_ _)); exact BK320.out⟩, ⟨by repeat (first | (with_reducible first | exact HB.out | apply below_alloc | apply pw_below_drewN | apply below_drew1 | refine below_set ?_ GE320.out) | exact HB.out)⟩⟩
        replace c40 := Bool.eq_false_iff.mpr c40
        subst c40
        have H1 : (some false) = some r := by rw [if_neg (show ¬ (false = true) by decide)] at H; exact H
        clear H
        have H := H1
        clear H1
        obtain rfl := Option.some.inj H
        obtain ⟨Ao42, co42, eo42⟩ := Kd.S_slice HO_7.out
        subst eo42
        have p330 : 0 ≤ (x11_4 : Int) := of_decide_eq_true (by with_reducible assumption)
        have q330 : x11_4 < (t323.length : Int) := of_decide_eq_true (by with_reducible assumption)
        obtain ⟨ad330, A330_1, c330_1, A330_2, c330_2, e330, hx330_0, hx330_1, hx330_2, hl330_1, hi330_1, hl330_2, hi330_2⟩ := at_T44 (S_reads' HO_7.out).2.2 x11_4 p330 q330
        cases e330
        obtain ⟨ce330, hce330, hMe330, hcc330⟩ := S_get HO_7.out z44 x11_4 p330 (by first | exact q330 | exact of_decide_eq_true (by with_reducible assumption) | (have e_ := (S_reads' HO_7.out).1; omega))
        obtain ⟨ve330_1, ve330_2, rfl, ge330_1, ge330_2⟩ := k44_openM hMe330
        have hv330_1 := hcc330 1 _ rfl
        rw [add_field _ _ 1 (by omega)] at hv330_1
        replace hv330_1 := Option.some.inj (hv330_1.symm.trans hx330_1)
        rw [hv330_1] at ge330_1
        have HL330_1 := Aside0.mk (show Kd.R (Kd.int .i64) 3 _ _ _ _ ((rd_T44 t323 x11_4).f1) from ge330_1)
        clear hv330_1 ge330_1
        have hv330_2 := hcc330 2 _ rfl
        rw [add_field _ _ 2 (by omega)] at hv330_2
        replace hv330_2 := Option.some.inj (hv330_2.symm.trans hx330_2)
        rw [hv330_2] at ge330_2
        have HL330_2 := Aside0.mk (show Kd.R (Kd.int .i64) 3 _ _ _ _ ((rd_T44 t323 x11_4).f2) from ge330_2)
        clear hv330_2 ge330_2
        clear hcc330 hce330
        have HR330_1 := Aside0.mk hi330_1
        have HC330_1 := Aside0.mk hl330_1
        clear hi330_1 hl330_1
        have HR330_2 := Aside0.mk hi330_2
        have HC330_2 := Aside0.mk hl330_2
        clear hi330_2 hl330_2
        replace p330 := eq_true p330
        replace q330 := eq_true q330
        go_wp2_with (first | ((with_reducible refine gate_callee (f := 28) rfl ?_); refine goesL_ (some 58) rfl rfl Try.func28 (by kernel_rfl) rfl #[.slice A330_1 ((rd_T44 t323 x11_4).f1).length c330_1, .int .i64 x9_2] rfl (by (try simp only [List.map_toArray, List.map_cons, List.map_nil]); first | done | rfl) ?_; (with_reducible refine (fettlelaw07_has.calls k4 _ _ ((rd_T44 t323 x11_4).f1) x9_2 true _ ?side1 ?side2 A31.out).mono ?_); (case side1 => repeat (first | exact (by repeat with_reducible first | exact HR330_1.out | refine C_alloc ?_ _ | refine C_drewN ?_ _ | refine C_drew ?_) | (with_reducible refine C_alloc ?_ _) | (with_reducible refine C_drewN ?_ _) | (with_reducible refine C_drew ?_))); (case side2 => exact HC330_1.out); rintro e w' ⟨rfl, ⟨nd, rfl⟩⟩; refine ⟨_, rfl, ?_⟩; have p332 : 0 ≤ (x11_4 : Int) := of_decide_eq_true (by with_reducible assumption); have q332 : x11_4 < (t323.length : Int) := of_decide_eq_true (by with_reducible assumption); obtain ⟨ad332, A332_1, c332_1, A332_2, c332_2, e332, hx332_0, hx332_1, hx332_2, hl332_1, hi332_1, hl332_2, hi332_2⟩ := at_T44 (S_reads' HO_7.out).2.2 x11_4 p332 q332; obtain rfl : ad330 = ad332 := (by injection e332); obtain ⟨ce332, hce332, hMe332, hcc332⟩ := S_get HO_7.out z44 x11_4 p332 (by first | exact q332 | exact of_decide_eq_true (by with_reducible assumption) | (have e_ := (S_reads' HO_7.out).1; omega)); obtain ⟨ve332_1, ve332_2, rfl, ge332_1, ge332_2⟩ := k44_openM hMe332; have hv332_1 := hcc332 1 _ rfl; rw [add_field _ _ 1 (by omega)] at hv332_1; replace hv332_1 := Option.some.inj (hv332_1.symm.trans hx332_1); rw [hv332_1] at ge332_1; have HL332_1 := Aside0.mk (show Kd.R (Kd.int .i64) 3 _ _ _ _ ((rd_T44 t323 x11_4).f1) from ge332_1); clear hv332_1 ge332_1; have hv332_2 := hcc332 2 _ rfl; rw [add_field _ _ 2 (by omega)] at hv332_2; replace hv332_2 := Option.some.inj (hv332_2.symm.trans hx332_2); rw [hv332_2] at ge332_2; have HL332_2 := Aside0.mk (show Kd.R (Kd.int .i64) 3 _ _ _ _ ((rd_T44 t323 x11_4).f2) from ge332_2); clear hv332_2 ge332_2; clear hcc332 hce332; have HR332_1 := Aside0.mk hi332_1; have HC332_1 := Aside0.mk hl332_1; clear hi332_1 hl332_1; have HR332_2 := Aside0.mk hi332_2; have HC332_2 := Aside0.mk hl332_2; clear hi332_2 hl332_2; replace p332 := eq_true p332; replace q332 := eq_true q332; have ea_ := Option.some.inj (hx330_1.symm.trans hx332_1); injection ea_ with ea_ en_ ec_; subst ea_; subst ec_; clear en_; have ea_ := Option.some.inj (hx330_2.symm.trans hx332_2); injection ea_ with ea_ en_ ec_; subst ea_; subst ec_; clear en_; have p333 : 0 ≤ (x11_4 : Int) := of_decide_eq_true (by with_reducible assumption); have q333 : x11_4 < (t323.length : Int) := of_decide_eq_true (by with_reducible assumption); obtain ⟨ad333, A333_1, c333_1, A333_2, c333_2, e333, hx333_0, hx333_1, hx333_2, hl333_1, hi333_1, hl333_2, hi333_2⟩ := at_T44 (S_reads' HO_7.out).2.2 x11_4 p333 q333; obtain rfl : ad330 = ad333 := (by injection e333); obtain ⟨ce333, hce333, hMe333, hcc333⟩ := S_get HO_7.out z44 x11_4 p333 (by first | exact q333 | exact of_decide_eq_true (by with_reducible assumption) | (have e_ := (S_reads' HO_7.out).1; omega)); obtain ⟨ve333_1, ve333_2, rfl, ge333_1, ge333_2⟩ := k44_openM hMe333; have hv333_1 := hcc333 1 _ rfl; rw [add_field _ _ 1 (by omega)] at hv333_1; replace hv333_1 := Option.some.inj (hv333_1.symm.trans hx333_1); rw [hv333_1] at ge333_1; have HL333_1 := Aside0.mk (show Kd.R (Kd.int .i64) 3 _ _ _ _ ((rd_T44 t323 x11_4).f1) from ge333_1); clear hv333_1 ge333_1; have hv333_2 := hcc333 2 _ rfl; rw [add_field _ _ 2 (by omega)] at hv333_2; replace hv333_2 := Option.some.inj (hv333_2.symm.trans hx333_2); rw [hv333_2] at ge333_2; have HL333_2 := Aside0.mk (show Kd.R (Kd.int .i64) 3 _ _ _ _ ((rd_T44 t323 x11_4).f2) from ge333_2); clear hv333_2 ge333_2; clear hcc333 hce333; have HR333_1 := Aside0.mk hi333_1; have HC333_1 := Aside0.mk hl333_1; clear hi333_1 hl333_1; have HR333_2 := Aside0.mk hi333_2; have HC333_2 := Aside0.mk hl333_2; clear hi333_2 hl333_2; replace p333 := eq_true p333; replace q333 := eq_true q333; have ea_ := Option.some.inj (hx330_1.symm.trans hx333_1); injection ea_ with ea_ en_ ec_; subst ea_; subst ec_; clear en_; have ea_ := Option.some.inj (hx330_2.symm.trans hx333_2); injection ea_ with ea_ en_ ec_; subst ea_; subst ec_; clear en_; have p334 : 0 ≤ (x11_4 : Int) := of_decide_eq_true (by with_reducible assumption); have q334 : x11_4 < (t323.length : Int) := of_decide_eq_true (by with_reducible assumption); obtain ⟨ad334, A334_1, c334_1, A334_2, c334_2, e334, hx334_0, hx334_1, hx334_2, hl334_1, hi334_1, hl334_2, hi334_2⟩ := at_T44 (S_reads' HO_7.out).2.2 x11_4 p334 q334; obtain rfl : ad330 = ad334 := (by injection e334); obtain ⟨ce334, hce334, hMe334, hcc334⟩ := S_get HO_7.out z44 x11_4 p334 (by first | exact q334 | exact of_decide_eq_true (by with_reducible assumption) | (have e_ := (S_reads' HO_7.out).1; omega)); obtain ⟨ve334_1, ve334_2, rfl, ge334_1, ge334_2⟩ := k44_openM hMe334; have hv334_1 := hcc334 1 _ rfl; rw [add_field _ _ 1 (by omega)] at hv334_1; replace hv334_1 := Option.some.inj (hv334_1.symm.trans hx334_1); rw [hv334_1] at ge334_1; have HL334_1 := Aside0.mk (show Kd.R (Kd.int .i64) 3 _ _ _ _ ((rd_T44 t323 x11_4).f1) from ge334_1); clear hv334_1 ge334_1; have hv334_2 := hcc334 2 _ rfl; rw [add_field _ _ 2 (by omega)] at hv334_2; replace hv334_2 := Option.some.inj (hv334_2.symm.trans hx334_2); rw [hv334_2] at ge334_2; have HL334_2 := Aside0.mk (show Kd.R (Kd.int .i64) 3 _ _ _ _ ((rd_T44 t323 x11_4).f2) from ge334_2); clear hv334_2 ge334_2; clear hcc334 hce334; have HR334_1 := Aside0.mk hi334_1; have HC334_1 := Aside0.mk hl334_1; clear hi334_1 hl334_1; have HR334_2 := Aside0.mk hi334_2; have HC334_2 := Aside0.mk hl334_2; clear hi334_2 hl334_2; replace p334 := eq_true p334; replace q334 := eq_true q334; have ea_ := Option.some.inj (hx330_1.symm.trans hx334_1); injection ea_ with ea_ en_ ec_; subst ea_; subst ec_; clear en_; have ea_ := Option.some.inj (hx330_2.symm.trans hx334_2); injection ea_ with ea_ en_ ec_; subst ea_; subst ec_; clear en_; have p335 : 0 ≤ (((rd_T44 t323 x11_4).f0) : Int) := of_decide_eq_true (by with_reducible assumption); have q335 : ((rd_T44 t323 x11_4).f0) < (y329.length : Int) := of_decide_eq_true (by with_reducible assumption); obtain ⟨ad335, e335, hx335_0⟩ := Kd.at_bool (R_reads' HO_8.out).2.2 ((rd_T44 t323 x11_4).f0) p335 q335; (try rw [← Nbq39.out] at hx335_0); obtain rfl : (⟨go26, 0, none⟩ : Addr) = ad335 := (by injection e335); (first | simp only [add_plain] at hx335_0 | simp only [add_at] at hx335_0 | simp only [Addr.add, Nat.zero_add] at hx335_0 | skip); replace p335 := eq_true p335; replace q335 := eq_true q335))
        go_ret
        exact ⟨by first | rfl | (simp [errW_none, errW_some] <;> rfl) | (simp [*, errW_none, errW_some] <;> rfl), by repeat (first | (with_reducible first | exact HB.out | apply below_alloc | apply pw_below_drewN | apply below_drew1 | refine below_set ?_ GE320.out) | exact HB.out)⟩
      replace c36 := Bool.eq_false_iff.mpr c36
      subst c36
      have H1 : (fettlelaw07_LoopsPaths.l1 k4 l1 t321 t323 y329 x9_2 x10_2 (wrap64 (x11_4 + 1)) a0_0 a0_1 l0_2 l0_3) = some r := by rw [if_neg (show ¬ (false = true) by decide)] at H; exact H
      clear H
      have H := H1
      clear H1
      have H' := Aside0.mk H
      clear H
      obtain ⟨Ao43, co43, eo43⟩ := Kd.S_slice HO_7.out
      subst eo43
      have p330 : 0 ≤ (x11_4 : Int) := of_decide_eq_true (by with_reducible assumption)
      have q330 : x11_4 < (t323.length : Int) := of_decide_eq_true (by with_reducible assumption)
      obtain ⟨ad330, A330_1, c330_1, A330_2, c330_2, e330, hx330_0, hx330_1, hx330_2, hl330_1, hi330_1, hl330_2, hi330_2⟩ := at_T44 (S_reads' HO_7.out).2.2 x11_4 p330 q330
      cases e330
      obtain ⟨ce330, hce330, hMe330, hcc330⟩ := S_get HO_7.out z44 x11_4 p330 (by first | exact q330 | exact of_decide_eq_true (by with_reducible assumption) | (have e_ := (S_reads' HO_7.out).1; omega))
      obtain ⟨ve330_1, ve330_2, rfl, ge330_1, ge330_2⟩ := k44_openM hMe330
      have hv330_1 := hcc330 1 _ rfl
      rw [add_field _ _ 1 (by omega)] at hv330_1
      replace hv330_1 := Option.some.inj (hv330_1.symm.trans hx330_1)
      rw [hv330_1] at ge330_1
      have HL330_1 := Aside0.mk (show Kd.R (Kd.int .i64) 3 _ _ _ _ ((rd_T44 t323 x11_4).f1) from ge330_1)
      clear hv330_1 ge330_1
      have hv330_2 := hcc330 2 _ rfl
      rw [add_field _ _ 2 (by omega)] at hv330_2
      replace hv330_2 := Option.some.inj (hv330_2.symm.trans hx330_2)
      rw [hv330_2] at ge330_2
      have HL330_2 := Aside0.mk (show Kd.R (Kd.int .i64) 3 _ _ _ _ ((rd_T44 t323 x11_4).f2) from ge330_2)
      clear hv330_2 ge330_2
      clear hcc330 hce330
      have HR330_1 := Aside0.mk hi330_1
      have HC330_1 := Aside0.mk hl330_1
      clear hi330_1 hl330_1
      have HR330_2 := Aside0.mk hi330_2
      have HC330_2 := Aside0.mk hl330_2
      clear hi330_2 hl330_2
      replace p330 := eq_true p330
      replace q330 := eq_true q330
      go_wp2_with (first | ((with_reducible refine gate_callee (f := 28) rfl ?_); refine goesL_ (some 58) rfl rfl Try.func28 (by kernel_rfl) rfl #[.slice A330_1 ((rd_T44 t323 x11_4).f1).length c330_1, .int .i64 x9_2] rfl (by (try simp only [List.map_toArray, List.map_cons, List.map_nil]); first | done | rfl) ?_; (with_reducible refine (fettlelaw07_has.calls k4 _ _ ((rd_T44 t323 x11_4).f1) x9_2 false _ ?side1 ?side2 A31.out).mono ?_); (case side1 => repeat (first | exact (by repeat with_reducible first | exact HR330_1.out | refine C_alloc ?_ _ | refine C_drewN ?_ _ | refine C_drew ?_) | (with_reducible refine C_alloc ?_ _) | (with_reducible refine C_drewN ?_ _) | (with_reducible refine C_drew ?_))); (case side2 => exact HC330_1.out); rintro e w' ⟨rfl, ⟨nd, rfl⟩⟩; refine ⟨_, rfl, ?_⟩; have p332 : 0 ≤ (x11_4 : Int) := of_decide_eq_true (by with_reducible assumption); have q332 : x11_4 < (t323.length : Int) := of_decide_eq_true (by with_reducible assumption); obtain ⟨ad332, A332_1, c332_1, A332_2, c332_2, e332, hx332_0, hx332_1, hx332_2, hl332_1, hi332_1, hl332_2, hi332_2⟩ := at_T44 (S_reads' HO_7.out).2.2 x11_4 p332 q332; obtain rfl : ad330 = ad332 := (by injection e332); obtain ⟨ce332, hce332, hMe332, hcc332⟩ := S_get HO_7.out z44 x11_4 p332 (by first | exact q332 | exact of_decide_eq_true (by with_reducible assumption) | (have e_ := (S_reads' HO_7.out).1; omega)); obtain ⟨ve332_1, ve332_2, rfl, ge332_1, ge332_2⟩ := k44_openM hMe332; have hv332_1 := hcc332 1 _ rfl; rw [add_field _ _ 1 (by omega)] at hv332_1; replace hv332_1 := Option.some.inj (hv332_1.symm.trans hx332_1); rw [hv332_1] at ge332_1; have HL332_1 := Aside0.mk (show Kd.R (Kd.int .i64) 3 _ _ _ _ ((rd_T44 t323 x11_4).f1) from ge332_1); clear hv332_1 ge332_1; have hv332_2 := hcc332 2 _ rfl; rw [add_field _ _ 2 (by omega)] at hv332_2; replace hv332_2 := Option.some.inj (hv332_2.symm.trans hx332_2); rw [hv332_2] at ge332_2; have HL332_2 := Aside0.mk (show Kd.R (Kd.int .i64) 3 _ _ _ _ ((rd_T44 t323 x11_4).f2) from ge332_2); clear hv332_2 ge332_2; clear hcc332 hce332; have HR332_1 := Aside0.mk hi332_1; have HC332_1 := Aside0.mk hl332_1; clear hi332_1 hl332_1; have HR332_2 := Aside0.mk hi332_2; have HC332_2 := Aside0.mk hl332_2; clear hi332_2 hl332_2; replace p332 := eq_true p332; replace q332 := eq_true q332; have ea_ := Option.some.inj (hx330_1.symm.trans hx332_1); injection ea_ with ea_ en_ ec_; subst ea_; subst ec_; clear en_; have ea_ := Option.some.inj (hx330_2.symm.trans hx332_2); injection ea_ with ea_ en_ ec_; subst ea_; subst ec_; clear en_; have p333 : 0 ≤ (x11_4 : Int) := of_decide_eq_true (by with_reducible assumption); have q333 : x11_4 < (t323.length : Int) := of_decide_eq_true (by with_reducible assumption); obtain ⟨ad333, A333_1, c333_1, A333_2, c333_2, e333, hx333_0, hx333_1, hx333_2, hl333_1, hi333_1, hl333_2, hi333_2⟩ := at_T44 (S_reads' HO_7.out).2.2 x11_4 p333 q333; obtain rfl : ad330 = ad333 := (by injection e333); obtain ⟨ce333, hce333, hMe333, hcc333⟩ := S_get HO_7.out z44 x11_4 p333 (by first | exact q333 | exact of_decide_eq_true (by with_reducible assumption) | (have e_ := (S_reads' HO_7.out).1; omega)); obtain ⟨ve333_1, ve333_2, rfl, ge333_1, ge333_2⟩ := k44_openM hMe333; have hv333_1 := hcc333 1 _ rfl; rw [add_field _ _ 1 (by omega)] at hv333_1; replace hv333_1 := Option.some.inj (hv333_1.symm.trans hx333_1); rw [hv333_1] at ge333_1; have HL333_1 := Aside0.mk (show Kd.R (Kd.int .i64) 3 _ _ _ _ ((rd_T44 t323 x11_4).f1) from ge333_1); clear hv333_1 ge333_1; have hv333_2 := hcc333 2 _ rfl; rw [add_field _ _ 2 (by omega)] at hv333_2; replace hv333_2 := Option.some.inj (hv333_2.symm.trans hx333_2); rw [hv333_2] at ge333_2; have HL333_2 := Aside0.mk (show Kd.R (Kd.int .i64) 3 _ _ _ _ ((rd_T44 t323 x11_4).f2) from ge333_2); clear hv333_2 ge333_2; clear hcc333 hce333; have HR333_1 := Aside0.mk hi333_1; have HC333_1 := Aside0.mk hl333_1; clear hi333_1 hl333_1; have HR333_2 := Aside0.mk hi333_2; have HC333_2 := Aside0.mk hl333_2; clear hi333_2 hl333_2; replace p333 := eq_true p333; replace q333 := eq_true q333; have ea_ := Option.some.inj (hx330_1.symm.trans hx333_1); injection ea_ with ea_ en_ ec_; subst ea_; subst ec_; clear en_; have ea_ := Option.some.inj (hx330_2.symm.trans hx333_2); injection ea_ with ea_ en_ ec_; subst ea_; subst ec_; clear en_))
      (try simp only [← hl8_4])
      go_roundg k4
      case measure => have := HJ4.out; have := HK2.out; have := HJ20.out; have := HK4.out; omega
      case rel => exact ⟨(wrap64 (x11_4 + 1)), (by first | rfl | (simp; done) | (simp [*]; done)), H', ⟨by have := HJ4.out; have := HK2.out; have := HJ20.out; have := HK4.out; omega⟩, ⟨by (try simp only [hl8_4]); (with_reducible repeat (first | apply S_alloc | apply S_drewN | apply S_drew)); exact HO_7.out⟩, ⟨by (try simp only [hl8_4]); (with_reducible repeat (first | apply R_alloc | apply R_drewN | apply R_drew)); exact HO_8.out⟩, ⟨by (try simp only [hl8_4]); (with_reducible repeat (first | refine blk_drewN ?_ _ | refine blk_drew ?_ | refine blk_alloc ?_ _)); exact BK320.out⟩, ⟨by repeat (first | (with_reducible first | exact HB.out | apply below_alloc | apply pw_below_drewN | apply below_drew1 | refine below_set ?_ GE320.out) | exact HB.out)⟩⟩
    rw [if_neg c29] at H
    have c29b0 : decide (x11_4 < (t323.length : Int)) = false := decide_eq_false c29
    (try simp only [hl8_4] at c29b0)
    clear c29
    replace H := Option.bind_eq_some_iff.mp H
    obtain ⟨t336, A440, H⟩ := H
    replace H : (if (t336.length : Int) = 0 then (fettlelaw07_LoopsPaths.j4 k4 l1 t321 t323 y329 x10_2 t336 true a0_0 a0_1 l0_2 l0_3) else (fettlelaw07_LoopsPaths.j4 k4 l1 t321 t323 y329 x10_2 t336 (decide (x10_2 ≥ (l1.length : Int))) a0_0 a0_1 l0_2 l0_3)) = some r := H
    have A44 := Aside0.mk A440
    clear A440
    have HC45 := Aside0.mk H
    clear H
    obtain ⟨Ao46, co46, eo46⟩ := Kd.S_slice HO_7.out
    subst eo46
    have hcz47_0 : wr.cell? ⟨gb320, 0, none⟩ = some (.int .i64 a0_0) := (blk_cell BK320.out 0).trans rfl
    have hcz47_1 : wr.cell? ⟨gb320, 1, none⟩ = some (.int .i64 a0_1) := (blk_cell BK320.out 1).trans rfl
    have hcz47_2 : wr.cell? ⟨gb320, 2, none⟩ = some (.slice A0_2 l0_2.length c0_2) := (blk_cell BK320.out 2).trans rfl
    have hcz47_3 : wr.cell? ⟨gb320, 3, none⟩ = some (.slice A0_3 l0_3.length c0_3) := (blk_cell BK320.out 3).trans rfl
    have hfz47_0 := blk_frozen BK320.out 0
    have hfz47_1 := blk_frozen BK320.out 1
    have hfz47_2 := blk_frozen BK320.out 2
    have hfz47_3 := blk_frozen BK320.out 3
    go_upto_region 19 with (first | ((with_reducible refine gate_callee (f := 19) rfl ?_); refine goesL_ (some 91) rfl rfl Try.func19 (by kernel_rfl) rfl #[.agg #[.int .i64 a0_0, .int .i64 a0_1, .slice A0_2 l0_2.length c0_2, .slice A0_3 l0_3.length c0_3], .int .i64 x9_2] rfl (by (try simp only [List.map_toArray, List.map_cons, List.map_nil]); first | done | rfl) ?_; (with_reducible refine (fettleref05_Next.calls k4 a0_0 a0_1 _ _ l0_2 _ _ l0_3 x9_2 t336 _ ?side1 ?side2 ?side3 ?side4 A44.out).mono ?_); (case side1 => repeat (first | exact (C_below HR0_2.out HB.out) | (with_reducible refine C_alloc ?_ _) | (with_reducible refine C_drewN ?_ _) | (with_reducible refine C_drew ?_))); (case side2 => exact HC0_2.out); (case side3 => repeat (first | exact (C_below HR0_3.out HB.out) | (with_reducible refine C_alloc ?_ _) | (with_reducible refine C_drewN ?_ _) | (with_reducible refine C_drew ?_))); (case side4 => exact HC0_3.out); rintro e w48 ⟨v337, rfl, ho0, hb⟩; refine ⟨_, rfl, ?_⟩; have n0_ := Aside0.mk (Kd.S_elder' (by (with_reducible repeat (first | apply S_alloc | apply S_drewN | apply S_drew)); exact HO_7.out) (R_base ho0) hb); have n1_ := Aside0.mk (Kd.R_below (by (with_reducible repeat (first | apply R_alloc | apply R_drewN | apply R_drew)); exact HO_8.out) hb); have n2_ := Aside0.mk (Kd.R_lower ho0 (below_size (by repeat with_reducible first | exact HB.out | apply below_alloc | apply pw_below_drewN | apply below_drew1 | refine below_set ?_ GE320.out))); have n3_ := Aside0.mk (blk_below (g := gb320) (o := .cells #[.int .i64 a0_0, .int .i64 a0_1, .slice A0_2 l0_2.length c0_2, .slice A0_3 l0_3.length c0_3] 25 (0, 0)) (by (with_reducible repeat (first | refine blk_drewN ?_ _ | refine blk_drew ?_ | refine blk_alloc ?_ _)); exact BK320.out) hb); have n4_ := Aside0.mk (below_step (by repeat with_reducible first | exact HB.out | apply below_alloc | apply pw_below_drewN | apply below_drew1 | refine below_set ?_ GE320.out) hb); clear HO_7; clear HO_8; clear BK320; clear HB; have HO_7 := n0_; have HO_8 := n1_; have HO338 := n2_; have BK320 := n3_; have HB := n4_; clear n0_ n1_ n2_ n3_ n4_; (try clear hb); (try clear hb2); (try clear hk); (try clear hi); (try clear ho0)))
    (try simp only [Act.put, List.setIfInBounds_toArray, List.set_cons_zero, List.set_cons_succ])
    go_cut [100] (fun v100 wc => ∃ (kq : Nat) (x100_44 : Bool), v100 = .bool x100_44 ∧ Aside0 (fettlelaw07_LoopsPaths.j4 kq l1 t321 t323 y329 x10_2 t336 x100_44 a0_0 a0_1 l0_2 l0_3 = some r) ∧ Aside0 (kq ≤ k4) ∧ Aside0 (Kd.S k44 44 wc w.heap.size (fun k_ => some k_ ≠ (v337 : Value).ownBlock) (.slice Ao46 t323.length co46) t323) ∧ Aside0 (Kd.R Kd.bool 4 wc w.heap.size (fun _ => True) (.slice (some ⟨go26, 0, none⟩) y329.length co26) y329) ∧ Aside0 (Kd.R (Kd.int .i64) 3 wc w.heap.size (fun _ => True) v337 t336) ∧ Aside0 (wc.heap[gb320]? = some (.cells #[.int .i64 a0_0, .int .i64 a0_1, (.slice A0_2 l0_2.length c0_2), (.slice A0_3 l0_3.length c0_3)] 25 (0, 0))) ∧ Aside0 (Below w.heap.size w wc))
    case first =>
      have H := HC45.out
      clear HC45
      by_cases c49 : (t336.length : Int) = 0
      · rw [if_pos c49] at H
        have c49b0 : ((t336.length : Int) == 0) = true := beq_iff_eq.mpr c49
        have c49b1 : ((t336.length : Int) != 0) = false := bne_eq_false_iff_eq.mpr c49
        clear c49
        (first | rw [c49b0] | (simp only [i64_w, i32_w]; rw [c49b0]) | skip)
        have H' := Aside0.mk H
        clear H
        obtain ⟨Ao50, co50, eo50⟩ := Kd.R_slice HO338.out
        subst eo50
        go_wp2
        go_meet
        case rel => exact ⟨_, (true), (by first | rfl | (simp; done) | (simp [*]; done)), H', ⟨by have := HJ4.out; have := HK2.out; have := HJ20.out; have := HK4.out; first | omega | exact Nat.le_refl _⟩, ⟨by (try simp only [hl8_4]); (with_reducible repeat (first | apply S_alloc | apply S_drewN | apply S_drew)); exact S_mono HO_7.out (fun _ hk => hk.2)⟩, ⟨by (try simp only [hl8_4]); (with_reducible repeat (first | apply R_alloc | apply R_drewN | apply R_drew)); exact HO_8.out⟩, ⟨by (try simp only [hl8_4]); (with_reducible repeat (first | apply R_alloc | apply R_drewN | apply R_drew)); exact HO338.out⟩, ⟨by (try simp only [hl8_4]); (with_reducible repeat (first | refine blk_drewN ?_ _ | refine blk_drew ?_ | refine blk_alloc ?_ _)); exact BK320.out⟩, ⟨by repeat (first | (with_reducible first | exact HB.out | apply below_alloc | apply pw_below_drewN | apply below_drew1 | refine below_set ?_ GE320.out) | exact HB.out)⟩⟩
      rw [if_neg c49] at H
      have c49b0 : ((t336.length : Int) == 0) = false := beq_eq_false_iff_ne.mpr c49
      have c49b1 : ((t336.length : Int) != 0) = true := bne_iff_ne.mpr c49
      have c49b2 : ¬ (t336 = []) := fun h_ => c49 (by rw [h_]; rfl)
      (first | rw [c49b0] | (simp only [i64_w, i32_w]; rw [c49b0]) | skip)
      have H' := Aside0.mk H
      clear H
      obtain ⟨Ao51, co51, eo51⟩ := Kd.R_slice HO338.out
      subst eo51
      go_wp2
      go_meet
      case rel => exact ⟨_, (decide (x10_2 ≥ (l1.length : Int))), (by first | rfl | (simp; done) | (simp [*]; done)), H', ⟨by have := HJ4.out; have := HK2.out; have := HJ20.out; have := HK4.out; first | omega | exact Nat.le_refl _⟩, ⟨by (try simp only [hl8_4]); (with_reducible repeat (first | apply S_alloc | apply S_drewN | apply S_drew)); exact S_mono HO_7.out (fun _ hk => hk.2)⟩, ⟨by (try simp only [hl8_4]); (with_reducible repeat (first | apply R_alloc | apply R_drewN | apply R_drew)); exact HO_8.out⟩, ⟨by (try simp only [hl8_4]); (with_reducible repeat (first | apply R_alloc | apply R_drewN | apply R_drew)); exact HO338.out⟩, ⟨by (try simp only [hl8_4]); (with_reducible repeat (first | refine blk_drewN ?_ _ | refine blk_drew ?_ | refine blk_alloc ?_ _)); exact BK320.out⟩, ⟨by repeat (first | (with_reducible first | exact HB.out | apply below_alloc | apply pw_below_drewN | apply below_drew1 | refine below_set ?_ GE320.out) | exact HB.out)⟩⟩
    clear HC45
    try clear c1
    try clear c2
    try clear p2
    try clear q2
    try clear hx2
    try clear hf2
    try clear c3
    try clear p3
    try clear q3
    try clear hx3
    try clear c4
    try clear p6
    try clear c9
    try clear c10
    try clear c12
    try clear c14
    try clear c14b0
    try clear c14b1
    try clear c15
    try clear c15b0
    try clear c15b1
    try clear c19
    try clear c22
    try clear c22b0
    try clear c23
    try clear c24
    try clear c24b0
    try clear c25
    try clear c25b0
    try clear c26
    try clear p26
    try clear q26
    try clear hx26
    try clear hf26
    try clear c27
    try clear c28
    try clear c29
    try clear c29b0
    try clear c30
    try clear c30b0
    try clear c32
    try clear c32b0
    try clear c33
    try clear p33
    try clear q33
    try clear hx33
    try clear c34
    try clear c34b0
    try clear c36
    try clear c37
    try clear c37b0
    try clear c38
    try clear c38b0
    try clear q39
    try clear c40
    try clear c49
    try clear c49b0
    try clear c49b1
    try clear c49b2
    try clear hcz11_0
    try clear hcz11_1
    try clear hcz11_2
    try clear hcz11_3
    try clear hcz16_0
    try clear hcz16_1
    try clear hcz16_2
    try clear hcz16_3
    try clear hcz18_0
    try clear hcz18_1
    try clear hcz18_2
    try clear hcz18_3
    try clear hcz47_0
    try clear hcz47_1
    try clear hcz47_2
    try clear hcz47_3
    try clear hcz8_0
    try clear hcz8_1
    try clear hcz8_2
    try clear hcz8_3
    try clear hfz11_0
    try clear hfz11_1
    try clear hfz11_2
    try clear hfz11_3
    try clear hfz16_0
    try clear hfz16_1
    try clear hfz16_2
    try clear hfz16_3
    try clear hfz18_0
    try clear hfz18_1
    try clear hfz18_2
    try clear hfz18_3
    try clear hfz47_0
    try clear hfz47_1
    try clear hfz47_2
    try clear hfz47_3
    try clear hfz8_0
    try clear hfz8_1
    try clear hfz8_2
    try clear hfz8_3
    try clear hx26_0
    try clear hx330_0
    try clear hx330_1
    try clear hx330_2
    try clear hx332_0
    try clear hx332_1
    try clear hx332_2
    try clear hx333_0
    try clear hx333_1
    try clear hx333_2
    try clear hx334_0
    try clear hx334_1
    try clear hx334_2
    try clear hx335_0
    try clear p2
    try clear p26
    try clear p330
    try clear p332
    try clear p333
    try clear p334
    try clear p335
    try clear q2
    try clear q26
    try clear q330
    try clear q332
    try clear q333
    try clear q334
    try clear q335
    obtain ⟨kq, x100_44, rfl, HA, HJ44, HO_7, HO_8, HO_13, BK320, HB⟩ := hcut
    rcases kq with _ | kj44
    · exact absurd HA.out (by simp [fettlelaw07_LoopsPaths.j4])
    have H := HA.out
    clear HA
    simp only [fettlelaw07_LoopsPaths.j4] at H
    by_cases c52 : x100_44 = true
    · subst c52
      have H1 : (some t321) = some r := by rw [if_pos rfl] at H; exact H
      clear H
      have H := H1
      clear H1
      obtain rfl := Option.some.inj H
      go_wp2
      go_ret
      exact ⟨by first | rfl | (simp [errW_none, errW_some] <;> rfl) | (simp [*, errW_none, errW_some] <;> rfl), by repeat (first | (with_reducible first | exact HB.out | apply below_alloc | apply pw_below_drewN | apply below_drew1 | refine below_set ?_ GE320.out) | exact HB.out)⟩
    replace c52 := Bool.eq_false_iff.mpr c52
    subst c52
    have H1 : (if 0 ≤ x10_2 then (if x10_2 < (l1.length : Int) then (if (rd l1 x10_2) < 0 then (if (t336.length : Int) = 0 then (none) else (if 0 ≤ (Int.tmod (wrap64 (-(wrap64 ((rd l1 x10_2) + 1)))) (t336.length : Int)) then (if (Int.tmod (wrap64 (-(wrap64 ((rd l1 x10_2) + 1)))) (t336.length : Int)) < (t336.length : Int) then (fettlelaw07_LoopsPaths.l0 kj44 l1 t321 t323 y329 (rd t336 (Int.tmod (wrap64 (-(wrap64 ((rd l1 x10_2) + 1)))) (t336.length : Int))) (wrap64 (x10_2 + 1)) a0_0 a0_1 l0_2 l0_3) else (none)) else (none))) else (if (t336.length : Int) = 0 then (none) else (if 0 ≤ (Int.tmod (rd l1 x10_2) (t336.length : Int)) then (if (Int.tmod (rd l1 x10_2) (t336.length : Int)) < (t336.length : Int) then (fettlelaw07_LoopsPaths.l0 kj44 l1 t321 t323 y329 (rd t336 (Int.tmod (rd l1 x10_2) (t336.length : Int))) (wrap64 (x10_2 + 1)) a0_0 a0_1 l0_2 l0_3) else (none)) else (none)))) else (none)) else (none)) = some r := by rw [if_neg (show ¬ (false = true) by decide)] at H; exact H
    clear H
    have H := H1
    clear H1
    by_cases c53 : 0 ≤ x10_2
    rotate_left
    · rw [if_neg c53] at H
      exact absurd H (by simp)
    rw [if_pos c53] at H
    have c53b0 : decide (0 ≤ x10_2) = true := decide_eq_true c53
    clear c53
    by_cases c54 : x10_2 < (l1.length : Int)
    rotate_left
    · rw [if_neg c54] at H
      exact absurd H (by simp)
    rw [if_pos c54] at H
    have c54b0 : decide (x10_2 < (l1.length : Int)) = true := decide_eq_true c54
    have c54b0l := c54b0
    (try simp only [hl8_4] at c54b0l)
    clear c54
    by_cases c55 : (rd l1 x10_2) < 0
    · rw [if_pos c55] at H
      have c55b0 : decide ((rd l1 x10_2) < 0) = true := decide_eq_true c55
      clear c55
      by_cases c56 : (t336.length : Int) = 0
      · rw [if_pos c56] at H
        exact absurd H (by simp)
      rw [if_neg c56] at H
      have c56b0 : ((t336.length : Int) == 0) = false := beq_eq_false_iff_ne.mpr c56
      have c56b1 : ((t336.length : Int) != 0) = true := bne_iff_ne.mpr c56
      have c56b2 : ¬ (t336 = []) := fun h_ => c56 (by rw [h_]; rfl)
      obtain ⟨ji57, hji57⟩ : ∃ j_ : Int, (Int.tmod (wrap64 (-(wrap64 ((rd l1 x10_2) + 1)))) (t336.length : Int)) = j_ := ⟨_, rfl⟩
      replace H : (if 0 ≤ (ji57) then (if (ji57) < (t336.length : Int) then (fettlelaw07_LoopsPaths.l0 kj44 l1 t321 t323 y329 (rd t336 (ji57)) (wrap64 (x10_2 + 1)) a0_0 a0_1 l0_2 l0_3) else (none)) else (none)) = some r := by first | (rw [hji57] at H; exact H) | (simp only [hji57] at H ⊢; exact H)
      by_cases c58 : 0 ≤ (ji57)
      rotate_left
      · rw [if_neg c58] at H
        exact absurd H (by simp)
      rw [if_pos c58] at H
      have c58b0 : decide (0 ≤ (ji57)) = true := decide_eq_true c58
      clear c58
      by_cases c59 : (ji57) < (t336.length : Int)
      rotate_left
      · rw [if_neg c59] at H
        exact absurd H (by simp)
      rw [if_pos c59] at H
      have c59b0 : decide ((ji57) < (t336.length : Int)) = true := decide_eq_true c59
      have c59b0l := c59b0
      (try simp only [hl8_4] at c59b0l)
      clear c59
      have H' := Aside0.mk H
      clear H
      have p339 : 0 ≤ (x10_2 : Int) := of_decide_eq_true (by with_reducible assumption)
      have q339 : x10_2 < (l1.length : Int) := of_decide_eq_true (by with_reducible assumption)
      obtain ⟨ad339, e339, hx339_0⟩ := Kd.at_int HR1.out x10_2 p339 q339
      cases e339
      replace hx339_0 := (HB.out.cell (World.block_lt_of_cell? w _ hx339_0)).trans hx339_0
      replace p339 := eq_true p339
      replace q339 := eq_true q339
      obtain ⟨Ao60, co60, eo60⟩ := Kd.R_slice HO_13.out
      subst eo60
      have p340 : 0 ≤ ((ji57) : Int) := of_decide_eq_true (by with_reducible assumption)
      have q340 : (ji57) < (t336.length : Int) := of_decide_eq_true (by with_reducible assumption)
      obtain ⟨ad340, e340, hx340_0⟩ := Kd.at_int (R_reads' HO_13.out).2.2 (ji57) p340 q340
      cases e340
      replace p340 := eq_true p340
      replace q340 := eq_true q340
      go_wp2
      (try simp only [← hl8_4])
      go_roundg kj44
      case measure => have := HJ4.out; have := HK2.out; have := HJ20.out; have := HK4.out; have := HJ44.out; omega
      case rel => exact ⟨(y329), (rd t336 (ji57)), (wrap64 (x10_2 + 1)), (by first | rfl | (simp; done) | (simp only [← hji57] <;> (first | rfl | simp)) | (simp [*]; done)), (by first | rfl | (simp; done) | (simp [*]; done)), H', ⟨by have := HJ4.out; have := HK2.out; have := HJ20.out; have := HK4.out; have := HJ44.out; omega⟩, ⟨by (try simp only [hl8_4]); (with_reducible repeat (first | apply S_alloc | apply S_drewN | apply S_drew)); exact S_mono HO_7.out (fun _ hk => trivial)⟩, ⟨by (try simp only [hl8_4]); (with_reducible repeat (first | apply R_alloc | apply R_drewN | apply R_drew)); exact HO_8.out⟩, ⟨by (try simp only [hl8_4]); (with_reducible repeat (first | refine blk_drewN ?_ _ | refine blk_drew ?_ | refine blk_alloc ?_ _)); exact BK320.out⟩, ⟨by repeat (first | (with_reducible first | exact HB.out | apply below_alloc | apply pw_below_drewN | apply below_drew1 | refine below_set ?_ GE320.out) | exact HB.out)⟩⟩
    rw [if_neg c55] at H
    have c55b0 : decide ((rd l1 x10_2) < 0) = false := decide_eq_false c55
    clear c55
    by_cases c61 : (t336.length : Int) = 0
    · rw [if_pos c61] at H
      exact absurd H (by simp)
    rw [if_neg c61] at H
    have c61b0 : ((t336.length : Int) == 0) = false := beq_eq_false_iff_ne.mpr c61
    have c61b1 : ((t336.length : Int) != 0) = true := bne_iff_ne.mpr c61
    have c61b2 : ¬ (t336 = []) := fun h_ => c61 (by rw [h_]; rfl)
    obtain ⟨ji62, hji62⟩ : ∃ j_ : Int, (Int.tmod (rd l1 x10_2) (t336.length : Int)) = j_ := ⟨_, rfl⟩
    replace H : (if 0 ≤ (ji62) then (if (ji62) < (t336.length : Int) then (fettlelaw07_LoopsPaths.l0 kj44 l1 t321 t323 y329 (rd t336 (ji62)) (wrap64 (x10_2 + 1)) a0_0 a0_1 l0_2 l0_3) else (none)) else (none)) = some r := by first | (rw [hji62] at H; exact H) | (simp only [hji62] at H ⊢; exact H)
    by_cases c63 : 0 ≤ (ji62)
    rotate_left
    · rw [if_neg c63] at H
      exact absurd H (by simp)
    rw [if_pos c63] at H
    have c63b0 : decide (0 ≤ (ji62)) = true := decide_eq_true c63
    clear c63
    by_cases c64 : (ji62) < (t336.length : Int)
    rotate_left
    · rw [if_neg c64] at H
      exact absurd H (by simp)
    rw [if_pos c64] at H
    have c64b0 : decide ((ji62) < (t336.length : Int)) = true := decide_eq_true c64
    have c64b0l := c64b0
    (try simp only [hl8_4] at c64b0l)
    clear c64
    have H' := Aside0.mk H
    clear H
    have p339 : 0 ≤ (x10_2 : Int) := of_decide_eq_true (by with_reducible assumption)
    have q339 : x10_2 < (l1.length : Int) := of_decide_eq_true (by with_reducible assumption)
    obtain ⟨ad339, e339, hx339_0⟩ := Kd.at_int HR1.out x10_2 p339 q339
    cases e339
    replace hx339_0 := (HB.out.cell (World.block_lt_of_cell? w _ hx339_0)).trans hx339_0
    replace p339 := eq_true p339
    replace q339 := eq_true q339
    obtain ⟨Ao65, co65, eo65⟩ := Kd.R_slice HO_13.out
    subst eo65
    have p341 : 0 ≤ ((ji62) : Int) := of_decide_eq_true (by with_reducible assumption)
    have q341 : (ji62) < (t336.length : Int) := of_decide_eq_true (by with_reducible assumption)
    obtain ⟨ad341, e341, hx341_0⟩ := Kd.at_int (R_reads' HO_13.out).2.2 (ji62) p341 q341
    cases e341
    replace p341 := eq_true p341
    replace q341 := eq_true q341
    go_wp2
    (try simp only [← hl8_4])
    go_roundg kj44
    case measure => have := HJ4.out; have := HK2.out; have := HJ20.out; have := HK4.out; have := HJ44.out; omega
    case rel => exact ⟨(y329), (rd t336 (ji62)), (wrap64 (x10_2 + 1)), (by first | rfl | (simp; done) | (simp only [← hji62] <;> (first | rfl | simp)) | (simp [*]; done)), (by first | rfl | (simp; done) | (simp [*]; done)), H', ⟨by have := HJ4.out; have := HK2.out; have := HJ20.out; have := HK4.out; have := HJ44.out; omega⟩, ⟨by (try simp only [hl8_4]); (with_reducible repeat (first | apply S_alloc | apply S_drewN | apply S_drew)); exact S_mono HO_7.out (fun _ hk => trivial)⟩, ⟨by (try simp only [hl8_4]); (with_reducible repeat (first | apply R_alloc | apply R_drewN | apply R_drew)); exact HO_8.out⟩, ⟨by (try simp only [hl8_4]); (with_reducible repeat (first | refine blk_drewN ?_ _ | refine blk_drew ?_ | refine blk_alloc ?_ _)); exact BK320.out⟩, ⟨by repeat (first | (with_reducible first | exact HB.out | apply below_alloc | apply pw_below_drewN | apply below_drew1 | refine below_set ?_ GE320.out) | exact HB.out)⟩⟩
  replace c23 := Bool.eq_false_iff.mpr c23
  subst c23
  have H1 : (some t321) = some r := by rw [if_neg (show ¬ (false = true) by decide)] at H; exact H
  clear H
  have H := H1
  clear H1
  obtain rfl := Option.some.inj H
  go_wp2
  go_ret
  exact ⟨by first | rfl | (simp [errW_none, errW_some] <;> rfl) | (simp [*, errW_none, errW_some] <;> rfl), by repeat (first | (with_reducible first | exact HB.out | apply below_alloc | apply pw_below_drewN | apply below_drew1 | refine below_set ?_ GE320.out) | exact HB.out)⟩
/-- THE ONE PURE STATEMENT of fettlelaw07_LoopsPaths: yours. -/
def fettlelaw07_LoopsPaths.Pure : Prop := ∀ (a0_0 : Int) (a0_1 : Int) (l0_2 : List Int) (l0_3 : List (S52)) (l1 : List Int), l1.length ≤ maxLen → l1.length * 8 ≤ 140737488351232 → (∀ x ∈ l1, (Lit.int .i64 x).wf = true) → ∃ k, fettlelaw07_LoopsPaths.f k a0_0 a0_1 l0_2 l0_3 l1 = some true
theorem fettlelaw07_LoopsPaths.walk (P : fettlelaw07_LoopsPaths.Pure) (a0_0 : Int) (a0_1 : Int) (A0_2 : Option Addr) (c0_2 : Nat) (l0_2 : List Int) (A0_3 : Option Addr) (c0_3 : Nat) (l0_3 : List (S52)) (a1 : Option Addr) (len1 cap1 : Nat) (z1 : List Int) (w : World) (hr0_2 : Kd.C (Kd.int .i64) w A0_2 l0_2.length l0_2) (hc0_2 : l0_2.length ≤ c0_2) (hr0_3 : Kd.C k52 w A0_3 l0_3.length l0_3) (hc0_3 : l0_3.length ≤ c0_3) (w1 : (a1 = none ∧ len1 = 0 ∧ cap1 = 0 ∧ z1 = []) ∨ ∃ x, a1 = some x ∧ len1 ≤ cap1 ∧ cap1 ≤ maxLen ∧ z1.length = cap1 ∧ (∀ i, i < z1.length → w.cell? (x.add i) = some (.int .i64 (z1.getD i 0))) ∧ ∀ n ∈ z1, (Lit.int .i64 n).wf = true) (y1 : len1 * 8 ≤ 140737488351232) :
    Calls Try.prog 9 #[.agg #[.int .i64 a0_0, .int .i64 a0_1, .slice A0_2 l0_2.length c0_2, .slice A0_3 l0_3.length c0_3], .slice a1 len1 cap1] w fun e w' => e = .returned (.bool true) ∧ Below w.heap.size w w' := by
  obtain ⟨l1, rfl, hr1, hm1, hw1, hc1⟩ := ReadsInt.ofRowC w1
  obtain ⟨k, h⟩ := P a0_0 a0_1 l0_2 l0_3 l1 hm1 y1 hw1
  refine (fettlelaw07_LoopsPaths.calls k a0_0 a0_1 A0_2 c0_2 l0_2 A0_3 c0_3 l0_3 _ _ l1 true w hr0_2 hc0_2 hr0_3 hc0_3 (Kd.C_of_reads (d := (0 : Int)) (h1 := fun _ => rfl) hr1) hc1 h).mono ?_
  rintro e w' ⟨rfl, hd⟩
  exact ⟨rfl, hd⟩

end Go.Proofs.Ytpionncanaamgaa.PLoopsPaths
