-- Laid by a program of this session (wip/pp/patch.py over the kit's print).
import Derived.Test.YtpionncanaamgaaPLoopsLiex0
import Derived.Test.YtpionncanaamgaaPLoopsLiex5
import Derived.Test.YtpionncanaamgaaPLoopsLiex8
import Derived.Test.YtpionncanaamgaaPLoopsLiex10
import Derived.Test.YtpionncanaamgaaShort
namespace Go.Proofs.Ytpionncanaamgaa.PLoopsLie
open Go.Proofs.Ytpionncanaamgaa.Short Go.RowKit Go.Proofs.YtpionncanaamgaaW.PrintWords Go.Proofs.YtpionncanaamgaaW.PrintLast Go.Proofs.YtpionncanaamgaaW.PrintMore Go.Proofs.YtpionncanaamgaaW.PrintWords.Kd
attribute [local go_sem] max2_int min2_int max_two min_two max_three min_three max_four min_four   -- for this text's walks alone
set_option linter.unusedVariables false
set_option linter.unusedSimpArgs false

/-! ### fettlelaw07_LoopsLie: function 8 -/
mutual
def fettlelaw07_LoopsLie.l0 : Nat → Bool → List (S44) → List (List Bool) → Int → Option (Bool)
  | 0, _, _, _, _ => none
  | k + 1, x3, x5, x6, x7 => if x7 < (x5.length : Int) then (fettlelaw07_LoopsLie.l1 k x3 x5 x6 x7 0) else (some x3)
def fettlelaw07_LoopsLie.l1 : Nat → Bool → List (S44) → List (List Bool) → Int → Int → Option (Bool)
  | 0, _, _, _, _, _ => none
  | k + 1, x3, x5, x6, x7, x8 => if 0 ≤ x7 then (if x7 < (x5.length : Int) then (if x8 < (((rd_T44 x5 x7).f1).length : Int) then (if 0 ≤ x8 then (if (rd ((rd_T44 x5 x7).f1) x8) < 0 then (some false) else (if (rd ((rd_T44 x5 x7).f1) x8) ≥ (x6.length : Int) then (some false) else (if ((rd_T44 x5 x7).f0) < 0 then (some false) else (if ((rd_T44 x5 x7).f0) ≥ (x6.length : Int) then (some false) else (if 0 ≤ ((rd_T44 x5 x7).f0) then (if ((rd_T44 x5 x7).f0) < (x6.length : Int) then (if ((rd_L11 x6 ((rd_T44 x5 x7).f0)).length : Int) = (x6.length : Int) then (if 0 ≤ (rd ((rd_T44 x5 x7).f1) x8) then (if (rd ((rd_T44 x5 x7).f1) x8) < ((rd_L11 x6 ((rd_T44 x5 x7).f0)).length : Int) then (if (rdOf false (rd_L11 x6 ((rd_T44 x5 x7).f0)) (rd ((rd_T44 x5 x7).f1) x8) = true) then (fettlelaw07_LoopsLie.l1 k x3 x5 x6 x7 (wrap64 (x8 + 1))) else (some false)) else (none)) else (none)) else (some false)) else (none)) else (none)))))) else (none)) else (fettlelaw07_LoopsLie.l2 k x3 x5 x6 x7 0)) else (none)) else (none)
def fettlelaw07_LoopsLie.l2 : Nat → Bool → List (S44) → List (List Bool) → Int → Int → Option (Bool)
  | 0, _, _, _, _, _ => none
  | k + 1, x3, x5, x6, x7, x10 => if x10 < x7 then (fettlelaw07_LoopsLie.l3 k x3 x5 x6 x7 x10 false 0) else (fettlelaw07_LoopsLie.l0 k x3 x5 x6 (wrap64 (x7 + 1)))
def fettlelaw07_LoopsLie.l3 : Nat → Bool → List (S44) → List (List Bool) → Int → Int → Bool → Int → Option (Bool)
  | 0, _, _, _, _, _, _, _ => none
  | k + 1, x3, x5, x6, x7, x10, x11, x12 => if 0 ≤ x7 then (if x7 < (x5.length : Int) then (if x12 < (((rd_T44 x5 x7).f1).length : Int) then (if 0 ≤ x10 then (if x10 < (x5.length : Int) then (if 0 ≤ x12 then ((fettlelaw07_has.f k ((rd_T44 x5 x10).f1) (rd ((rd_T44 x5 x7).f1) x12)).bind fun t335 => (if x11 = true then (fettlelaw07_LoopsLie.l3 k x3 x5 x6 x7 x10 true (wrap64 (x12 + 1))) else (fettlelaw07_LoopsLie.l3 k x3 x5 x6 x7 x10 t335 (wrap64 (x12 + 1))))) else (none)) else (none)) else (none)) else (if 0 ≤ x10 then (if x10 < (x5.length : Int) then (if ((rd_T44 x5 x10).f0) = ((rd_T44 x5 x7).f0) then (some false) else (if x11 = true then ((fettlelaw07_has.f k ((rd_T44 x5 x7).f1) ((rd_T44 x5 x10).f0)).bind fun t340 => (if t340 = true then (fettlelaw07_LoopsLie.l2 k x3 x5 x6 x7 (wrap64 (x10 + 1))) else ((fettlelaw07_has.f k ((rd_T44 x5 x10).f1) ((rd_T44 x5 x7).f0)).bind fun t343 => (if t343 = true then (fettlelaw07_LoopsLie.l2 k x3 x5 x6 x7 (wrap64 (x10 + 1))) else (some false))))) else (fettlelaw07_LoopsLie.l2 k x3 x5 x6 x7 (wrap64 (x10 + 1))))) else (none)) else (none))) else (none)) else (none)
end
def fettlelaw07_LoopsLie.f (k : Nat) (a0_0 : Int) (a0_1 : Int) (l0_2 : List Int) (l0_3 : List (S52)) : Option (Bool) := (fettlelaw07_up.f k).bind fun t313 => ((fettlelaw07_small.f k a0_0 a0_1 l0_2 l0_3).bind fun t314 => (if t314 = true then ((loops_Loops.f k a0_0 a0_1 l0_2 l0_3).bind fun t315 => ((dom_Dominates.f k a0_0 a0_1 l0_2 l0_3).bind fun t318 => (fettlelaw07_LoopsLie.l0 k t313 t315 t318 0))) else (some t313)))
theorem fettlelaw07_LoopsLie.mono_l : ∀ k, (∀ y0 y1 y2 y3, LeO (fettlelaw07_LoopsLie.l0 k y0 y1 y2 y3) (fettlelaw07_LoopsLie.l0 (k + 1) y0 y1 y2 y3)) ∧ (∀ y0 y1 y2 y3 y4, LeO (fettlelaw07_LoopsLie.l1 k y0 y1 y2 y3 y4) (fettlelaw07_LoopsLie.l1 (k + 1) y0 y1 y2 y3 y4)) ∧ (∀ y0 y1 y2 y3 y4, LeO (fettlelaw07_LoopsLie.l2 k y0 y1 y2 y3 y4) (fettlelaw07_LoopsLie.l2 (k + 1) y0 y1 y2 y3 y4)) ∧ (∀ y0 y1 y2 y3 y4 y5 y6, LeO (fettlelaw07_LoopsLie.l3 k y0 y1 y2 y3 y4 y5 y6) (fettlelaw07_LoopsLie.l3 (k + 1) y0 y1 y2 y3 y4 y5 y6))
  | 0 => ⟨fun _ _ _ _ r h => by simp [fettlelaw07_LoopsLie.l0] at h, fun _ _ _ _ _ r h => by simp [fettlelaw07_LoopsLie.l1] at h, fun _ _ _ _ _ r h => by simp [fettlelaw07_LoopsLie.l2] at h, fun _ _ _ _ _ _ _ r h => by simp [fettlelaw07_LoopsLie.l3] at h⟩
  | k + 1 => by
    obtain ⟨ih0, ih1, ih2, ih3⟩ := fettlelaw07_LoopsLie.mono_l k
    refine ⟨?_, ?_, ?_, ?_⟩
    · intro y0 y1 y2 y3
      unfold fettlelaw07_LoopsLie.l0
      repeat' first
      | (with_reducible exact ih0 _ _ _ _)
      | (with_reducible exact ih1 _ _ _ _ _)
      | (with_reducible exact ih2 _ _ _ _ _)
      | (with_reducible exact ih3 _ _ _ _ _ _ _)
      | (with_reducible exact dom_Dominates.mono _ _ _ _ _)
      | (with_reducible exact fettlelaw07_has.mono _ _ _)
      | (with_reducible exact fettlelaw07_small.mono _ _ _ _ _)
      | (with_reducible exact fettlelaw07_up.mono _)
      | (with_reducible exact loops_Loops.mono _ _ _ _ _)
      | (with_reducible exact LeO.refl _)
      | (with_reducible exact LeO.none _)
      | (with_reducible refine LeO.ite ?_ ?_)
      | (with_reducible refine LeO.bind ?_ (fun _ => ?_))
      | exact ih0 _ _ _ _
      | exact ih1 _ _ _ _ _
      | exact ih2 _ _ _ _ _
      | exact ih3 _ _ _ _ _ _ _
      | exact dom_Dominates.mono _ _ _ _ _
      | exact fettlelaw07_has.mono _ _ _
      | exact fettlelaw07_small.mono _ _ _ _ _
      | exact fettlelaw07_up.mono _
      | exact loops_Loops.mono _ _ _ _ _
      | exact LeO.none _
      | refine LeO.ite ?_ ?_
      | refine LeO.bind ?_ (fun _ => ?_)
    · intro y0 y1 y2 y3 y4
      unfold fettlelaw07_LoopsLie.l1
      repeat' first
      | (with_reducible exact ih0 _ _ _ _)
      | (with_reducible exact ih1 _ _ _ _ _)
      | (with_reducible exact ih2 _ _ _ _ _)
      | (with_reducible exact ih3 _ _ _ _ _ _ _)
      | (with_reducible exact dom_Dominates.mono _ _ _ _ _)
      | (with_reducible exact fettlelaw07_has.mono _ _ _)
      | (with_reducible exact fettlelaw07_small.mono _ _ _ _ _)
      | (with_reducible exact fettlelaw07_up.mono _)
      | (with_reducible exact loops_Loops.mono _ _ _ _ _)
      | (with_reducible exact LeO.refl _)
      | (with_reducible exact LeO.none _)
      | (with_reducible refine LeO.ite ?_ ?_)
      | (with_reducible refine LeO.bind ?_ (fun _ => ?_))
      | exact ih0 _ _ _ _
      | exact ih1 _ _ _ _ _
      | exact ih2 _ _ _ _ _
      | exact ih3 _ _ _ _ _ _ _
      | exact dom_Dominates.mono _ _ _ _ _
      | exact fettlelaw07_has.mono _ _ _
      | exact fettlelaw07_small.mono _ _ _ _ _
      | exact fettlelaw07_up.mono _
      | exact loops_Loops.mono _ _ _ _ _
      | exact LeO.none _
      | refine LeO.ite ?_ ?_
      | refine LeO.bind ?_ (fun _ => ?_)
    · intro y0 y1 y2 y3 y4
      unfold fettlelaw07_LoopsLie.l2
      repeat' first
      | (with_reducible exact ih0 _ _ _ _)
      | (with_reducible exact ih1 _ _ _ _ _)
      | (with_reducible exact ih2 _ _ _ _ _)
      | (with_reducible exact ih3 _ _ _ _ _ _ _)
      | (with_reducible exact dom_Dominates.mono _ _ _ _ _)
      | (with_reducible exact fettlelaw07_has.mono _ _ _)
      | (with_reducible exact fettlelaw07_small.mono _ _ _ _ _)
      | (with_reducible exact fettlelaw07_up.mono _)
      | (with_reducible exact loops_Loops.mono _ _ _ _ _)
      | (with_reducible exact LeO.refl _)
      | (with_reducible exact LeO.none _)
      | (with_reducible refine LeO.ite ?_ ?_)
      | (with_reducible refine LeO.bind ?_ (fun _ => ?_))
      | exact ih0 _ _ _ _
      | exact ih1 _ _ _ _ _
      | exact ih2 _ _ _ _ _
      | exact ih3 _ _ _ _ _ _ _
      | exact dom_Dominates.mono _ _ _ _ _
      | exact fettlelaw07_has.mono _ _ _
      | exact fettlelaw07_small.mono _ _ _ _ _
      | exact fettlelaw07_up.mono _
      | exact loops_Loops.mono _ _ _ _ _
      | exact LeO.none _
      | refine LeO.ite ?_ ?_
      | refine LeO.bind ?_ (fun _ => ?_)
    · intro y0 y1 y2 y3 y4 y5 y6
      unfold fettlelaw07_LoopsLie.l3
      repeat' first
      | (with_reducible exact ih0 _ _ _ _)
      | (with_reducible exact ih1 _ _ _ _ _)
      | (with_reducible exact ih2 _ _ _ _ _)
      | (with_reducible exact ih3 _ _ _ _ _ _ _)
      | (with_reducible exact dom_Dominates.mono _ _ _ _ _)
      | (with_reducible exact fettlelaw07_has.mono _ _ _)
      | (with_reducible exact fettlelaw07_small.mono _ _ _ _ _)
      | (with_reducible exact fettlelaw07_up.mono _)
      | (with_reducible exact loops_Loops.mono _ _ _ _ _)
      | (with_reducible exact LeO.refl _)
      | (with_reducible exact LeO.none _)
      | (with_reducible refine LeO.ite ?_ ?_)
      | (with_reducible refine LeO.bind ?_ (fun _ => ?_))
      | exact ih0 _ _ _ _
      | exact ih1 _ _ _ _ _
      | exact ih2 _ _ _ _ _
      | exact ih3 _ _ _ _ _ _ _
      | exact dom_Dominates.mono _ _ _ _ _
      | exact fettlelaw07_has.mono _ _ _
      | exact fettlelaw07_small.mono _ _ _ _ _
      | exact fettlelaw07_up.mono _
      | exact loops_Loops.mono _ _ _ _ _
      | exact LeO.none _
      | refine LeO.ite ?_ ?_
      | refine LeO.bind ?_ (fun _ => ?_)
theorem fettlelaw07_LoopsLie.mono : ∀ a0 a1 a2 a3 k, LeO (fettlelaw07_LoopsLie.f k a0 a1 a2 a3) (fettlelaw07_LoopsLie.f (k + 1) a0 a1 a2 a3) := by
  intro a0 a1 a2 a3 k
  obtain ⟨ih0, ih1, ih2, ih3⟩ := fettlelaw07_LoopsLie.mono_l k
  unfold fettlelaw07_LoopsLie.f
  repeat' first
      | (with_reducible exact ih0 _ _ _ _)
      | (with_reducible exact ih1 _ _ _ _ _)
      | (with_reducible exact ih2 _ _ _ _ _)
      | (with_reducible exact ih3 _ _ _ _ _ _ _)
      | (with_reducible exact dom_Dominates.mono _ _ _ _ _)
      | (with_reducible exact fettlelaw07_has.mono _ _ _)
      | (with_reducible exact fettlelaw07_small.mono _ _ _ _ _)
      | (with_reducible exact fettlelaw07_up.mono _)
      | (with_reducible exact loops_Loops.mono _ _ _ _ _)
      | (with_reducible exact LeO.refl _)
      | (with_reducible exact LeO.none _)
      | (with_reducible refine LeO.ite ?_ ?_)
      | (with_reducible refine LeO.bind ?_ (fun _ => ?_))
      | exact ih0 _ _ _ _
      | exact ih1 _ _ _ _ _
      | exact ih2 _ _ _ _ _
      | exact ih3 _ _ _ _ _ _ _
      | exact dom_Dominates.mono _ _ _ _ _
      | exact fettlelaw07_has.mono _ _ _
      | exact fettlelaw07_small.mono _ _ _ _ _
      | exact fettlelaw07_up.mono _
      | exact loops_Loops.mono _ _ _ _ _
      | exact LeO.none _
      | refine LeO.ite ?_ ?_
      | refine LeO.bind ?_ (fun _ => ?_)
def fettlelaw07_LoopsLie.T23 : Bool × List (List Nat × List Nat) := (true, [([], []), ([], []), ([0, 1], [0, 1]), ([2], [2]), ([3], [3]), ([], []), ([], []), ([5, 6], [5, 6]), ([7], [7]), ([8], [8]), ([], []), ([9, 10], [9, 10]), ([11], [11]), ([4, 12], [4, 12]), ([13, 13, 0, 1, 2, 3, 4, 5, 6, 7, 8, 9, 10, 11, 12, 13], [13])])
def fettlelaw07_LoopsLie.B23 : List Nat := [0, 0, 3, 7, 15, 0, 0, 96, 224, 480, 0, 2016, 4064, 8191, 16383]
theorem fettlelaw07_LoopsLie.tab23 : rtab .any (opsOf Try.f8 23) = fettlelaw07_LoopsLie.T23 := by kernel_rfl
theorem fettlelaw07_LoopsLie.bits23 : waitsOk fettlelaw07_LoopsLie.T23.2 fettlelaw07_LoopsLie.B23 = true := by kernel_rfl
def fettlelaw07_LoopsLie.T25 : Bool × List (List Nat × List Nat) := (true, [([], []), ([], []), ([0, 1], [0, 1]), ([2], [2]), ([3], [3]), ([], []), ([], []), ([5, 6], [5, 6]), ([7], [7]), ([8], [8]), ([4, 9], [4, 9]), ([10], [10]), ([11], [11]), ([12, 11, 11], [11, 12]), ([13], [13]), ([13], [13]), ([14, 15, 13], [13, 14, 15]), ([16, 13], [13, 16]), ([17, 13], [13, 17]), ([13], [13]), ([13], [13]), ([19, 20, 13], [13, 19, 20]), ([21, 13], [13, 21]), ([22, 13], [13, 22]), ([18, 23, 13, 13], [13, 18, 23]), ([24, 13], [13, 24]), ([13, 25, 11], [11, 13, 25]), ([26, 24, 11], [11, 26]), ([27], [27]), ([27], [27]), ([28, 29, 27], [27, 28, 29]), ([30, 27], [27, 30]), ([31, 27], [27, 31]), ([27], [27]), ([27], [27]), ([33, 34, 27], [27, 33, 34]), ([35, 27], [27, 35]), ([36, 27], [27, 36]), ([32, 37, 27, 27], [27, 32, 37]), ([38, 27], [27, 38]), ([27, 39, 11], [11, 27, 39]), ([11, 40], [11, 40])])
def fettlelaw07_LoopsLie.B25 : List Nat := [0, 0, 3, 7, 15, 0, 0, 96, 224, 480, 1023, 2047, 4095, 8191, 16383, 16383, 65535, 131071, 262143, 16383, 16383, 1589247, 3686399, 7880703, 16777215, 33554431, 67108863, 134217727, 268435455, 268435455, 1073741823, 2147483647, 4294967295, 268435455, 268435455, 26038239231, 60397977599, 129117454335, 274877906943, 549755813887, 1099511627775, 2199023255551]
theorem fettlelaw07_LoopsLie.tab25 : rtab .any (opsOf Try.f8 25) = fettlelaw07_LoopsLie.T25 := by kernel_rfl
theorem fettlelaw07_LoopsLie.bits25 : waitsOk fettlelaw07_LoopsLie.T25.2 fettlelaw07_LoopsLie.B25 = true := by kernel_rfl
set_option maxHeartbeats 8000000 in
set_option maxRecDepth 100000 in
theorem fettlelaw07_LoopsLie.calls (k : Nat) (a0_0 : Int) (a0_1 : Int) (A0_2 : Option Addr) (c0_2 : Nat) (l0_2 : List Int) (A0_3 : Option Addr) (c0_3 : Nat) (l0_3 : List (S52)) (r : Bool) (w : World) (hr0_2 : Kd.C (Kd.int .i64) w A0_2 l0_2.length l0_2) (hc0_2 : l0_2.length ≤ c0_2) (hr0_3 : Kd.C k52 w A0_3 l0_3.length l0_3) (hc0_3 : l0_3.length ≤ c0_3) (h : fettlelaw07_LoopsLie.f k a0_0 a0_1 l0_2 l0_3 = some r) :
    Calls Try.prog 8 #[.agg #[.int .i64 a0_0, .int .i64 a0_1, .slice A0_2 l0_2.length c0_2, .slice A0_3 l0_3.length c0_3]] w fun e w' => e = .returned (.bool r) ∧ Below w.heap.size w w' := by
  have hu25 := Try.underlying25
  have HR0_2 := Aside0.mk hr0_2
  have HC0_2 := Aside0.mk hc0_2
  clear hr0_2 hc0_2
  have HR0_3 := Aside0.mk hr0_3
  have HC0_3 := Aside0.mk hc0_3
  clear hr0_3 hc0_3
  have HB := Aside0.mk (Below.refl w.heap.size w)
  have H : ((fettlelaw07_up.f k).bind fun t313 => ((fettlelaw07_small.f k a0_0 a0_1 l0_2 l0_3).bind fun t314 => (if t314 = true then ((loops_Loops.f k a0_0 a0_1 l0_2 l0_3).bind fun t315 => ((dom_Dominates.f k a0_0 a0_1 l0_2 l0_3).bind fun t318 => (fettlelaw07_LoopsLie.l0 k t313 t315 t318 0))) else (some t313)))) = some r := h
  clear h
  replace H := Option.bind_eq_some_iff.mp H
  obtain ⟨t313, A20, H⟩ := H
  replace H : ((fettlelaw07_small.f k a0_0 a0_1 l0_2 l0_3).bind fun t314 => (if t314 = true then ((loops_Loops.f k a0_0 a0_1 l0_2 l0_3).bind fun t315 => ((dom_Dominates.f k a0_0 a0_1 l0_2 l0_3).bind fun t318 => (fettlelaw07_LoopsLie.l0 k t313 t315 t318 0))) else (some t313))) = some r := H
  have A2 := Aside0.mk A20
  clear A20
  replace H := Option.bind_eq_some_iff.mp H
  obtain ⟨t314, A30, H⟩ := H
  replace H : (if t314 = true then ((loops_Loops.f k a0_0 a0_1 l0_2 l0_3).bind fun t315 => ((dom_Dominates.f k a0_0 a0_1 l0_2 l0_3).bind fun t318 => (fettlelaw07_LoopsLie.l0 k t313 t315 t318 0))) else (some t313)) = some r := H
  have A3 := Aside0.mk A30
  clear A30
  by_cases c4 : t314 = true
  · subst c4
    have H1 : ((loops_Loops.f k a0_0 a0_1 l0_2 l0_3).bind fun t315 => ((dom_Dominates.f k a0_0 a0_1 l0_2 l0_3).bind fun t318 => (fettlelaw07_LoopsLie.l0 k t313 t315 t318 0))) = some r := by rw [if_pos rfl] at H; exact H
    clear H
    have H := H1
    clear H1
    replace H := Option.bind_eq_some_iff.mp H
    obtain ⟨t315, A50, H⟩ := H
    replace H : ((dom_Dominates.f k a0_0 a0_1 l0_2 l0_3).bind fun t318 => (fettlelaw07_LoopsLie.l0 k t313 t315 t318 0)) = some r := H
    have A5 := Aside0.mk A50
    clear A50
    replace H := Option.bind_eq_some_iff.mp H
    obtain ⟨t318, A60, H⟩ := H
    replace H : (fettlelaw07_LoopsLie.l0 k t313 t315 t318 0) = some r := H
    have A6 := Aside0.mk A60
    clear A60
    have H' := Aside0.mk H
    clear H
    go_enter Try.func8, Try.ntmps8
    go_wp2_with (first | ((with_reducible refine gate_dst (N := 1) rfl ?_); (try (refine gate_guard (by rfl) ?_; dsimp only)); refine box_event ?hg (N := 1) ?hd (cs := #[.int .i64 a0_0, .int .i64 a0_1, .slice A0_2 l0_2.length c0_2, .slice A0_3 l0_3.length c0_3]) (t := 25) ?hr ?_; (case hd => rfl); (case hg => rfl); (case hr => first | (go_simp; done) | (go_simp; rfl)); intro gb312 hg w7 hbox hb; have n0_ := Aside0.mk (below_step (by repeat with_reducible first | exact HB.out | apply below_alloc | apply pw_below_drewN | apply below_drew1) hb); have n1_ := Aside0.mk (hbox); have n2_ := Aside0.mk ((by rw [hg]; exact (below_size (by repeat with_reducible first | exact HB.out | apply below_alloc | apply pw_below_drewN | apply below_drew1)) : w.heap.size ≤ gb312)); have n3_ := Aside0.mk ((by rw [hg]; exact (below_size (by repeat with_reducible first | exact HB.out | apply below_alloc | apply pw_below_drewN | apply below_drew1)) : w.heap.size ≤ gb312)); clear HB; have HB := n0_; have BK312 := n1_; have GW312 := n2_; have GE312 := n3_; clear n0_ n1_ n2_ n3_; clear hb hbox hg) | ((with_reducible refine gate_callee (f := 25) rfl ?_); refine goesL_ (some 14) rfl rfl Try.func25 (by kernel_rfl) rfl #[] rfl (by (try simp only [List.map_toArray, List.map_cons, List.map_nil]); first | done | rfl) ?_; (with_reducible refine (fettlelaw07_up.calls k  t313 _ A2.out).mono ?_); rintro e w8 ⟨rfl, hb⟩; refine ⟨_, rfl, ?_⟩; have n0_ := Aside0.mk (blk_below (g := gb312) (o := .cells #[.int .i64 a0_0, .int .i64 a0_1, .slice A0_2 l0_2.length c0_2, .slice A0_3 l0_3.length c0_3] 25 (0, 0)) (by (with_reducible repeat (first | refine blk_drewN ?_ _ | refine blk_drew ?_ | refine blk_alloc ?_ _)); exact BK312.out) hb); have n1_ := Aside0.mk (below_step (by repeat with_reducible first | exact HB.out | apply below_alloc | apply pw_below_drewN | apply below_drew1 | refine below_set ?_ GE312.out) hb); clear BK312; clear HB; have BK312 := n0_; have HB := n1_; clear n0_ n1_; (try clear hb); (try clear hb2); (try clear hk); (try clear hi); have hcz9_0 : w8.cell? ⟨gb312, 0, none⟩ = some (.int .i64 a0_0) := (blk_cell BK312.out 0).trans rfl; have hcz9_1 : w8.cell? ⟨gb312, 1, none⟩ = some (.int .i64 a0_1) := (blk_cell BK312.out 1).trans rfl; have hcz9_2 : w8.cell? ⟨gb312, 2, none⟩ = some (.slice A0_2 l0_2.length c0_2) := (blk_cell BK312.out 2).trans rfl; have hcz9_3 : w8.cell? ⟨gb312, 3, none⟩ = some (.slice A0_3 l0_3.length c0_3) := (blk_cell BK312.out 3).trans rfl; have hfz9_0 := blk_frozen BK312.out 0; have hfz9_1 := blk_frozen BK312.out 1; have hfz9_2 := blk_frozen BK312.out 2; have hfz9_3 := blk_frozen BK312.out 3) | ((with_reducible refine gate_callee (f := 26) rfl ?_); refine goesL_ (some 16) rfl rfl Try.func26 (by kernel_rfl) rfl #[.agg #[.int .i64 a0_0, .int .i64 a0_1, .slice A0_2 l0_2.length c0_2, .slice A0_3 l0_3.length c0_3]] rfl (by (try simp only [List.map_toArray, List.map_cons, List.map_nil]); first | done | rfl) ?_; (with_reducible refine (fettlelaw07_small.calls k a0_0 a0_1 (fun k_ => k_ < w.heap.size) _ _ l0_2 (fun k_ => k_ < w.heap.size) _ _ l0_3 true _ ?side1 ?side2 A3.out).mono ?_); (case side1 => exact Kd.V_mk HC0_2.out (Kd.F_below (Kd.C_F (Kd.heap_int .i64) HR0_2.out) (by repeat with_reducible first | exact HB.out | apply below_alloc | apply pw_below_drewN | apply below_drew1 | refine below_set ?_ GE312.out))); (case side2 => exact Kd.V_mk HC0_3.out (Kd.F_below (Kd.C_F k52_heap HR0_3.out) (by repeat with_reducible first | exact HB.out | apply below_alloc | apply pw_below_drewN | apply below_drew1 | refine below_set ?_ GE312.out))); rintro e w10 ⟨rfl, hb⟩; refine ⟨_, rfl, ?_⟩; have n0_ := Aside0.mk (blk_below (g := gb312) (o := .cells #[.int .i64 a0_0, .int .i64 a0_1, .slice A0_2 l0_2.length c0_2, .slice A0_3 l0_3.length c0_3] 25 (0, 0)) (by (with_reducible repeat (first | refine blk_drewN ?_ _ | refine blk_drew ?_ | refine blk_alloc ?_ _)); exact BK312.out) hb); have n1_ := Aside0.mk (below_step (by repeat with_reducible first | exact HB.out | apply below_alloc | apply pw_below_drewN | apply below_drew1 | refine below_set ?_ GE312.out) hb); clear BK312; clear HB; have BK312 := n0_; have HB := n1_; clear n0_ n1_; (try clear hb); (try clear hb2); (try clear hk); (try clear hi); have hcz11_0 : w10.cell? ⟨gb312, 0, none⟩ = some (.int .i64 a0_0) := (blk_cell BK312.out 0).trans rfl; have hcz11_1 : w10.cell? ⟨gb312, 1, none⟩ = some (.int .i64 a0_1) := (blk_cell BK312.out 1).trans rfl; have hcz11_2 : w10.cell? ⟨gb312, 2, none⟩ = some (.slice A0_2 l0_2.length c0_2) := (blk_cell BK312.out 2).trans rfl; have hcz11_3 : w10.cell? ⟨gb312, 3, none⟩ = some (.slice A0_3 l0_3.length c0_3) := (blk_cell BK312.out 3).trans rfl; have hfz11_0 := blk_frozen BK312.out 0; have hfz11_1 := blk_frozen BK312.out 1; have hfz11_2 := blk_frozen BK312.out 2; have hfz11_3 := blk_frozen BK312.out 3) | ((with_reducible refine gate_callee (f := 27) rfl ?_); refine goesL_ (some 21) rfl rfl Try.func27 (by kernel_rfl) rfl #[.agg #[.int .i64 a0_0, .int .i64 a0_1, .slice A0_2 l0_2.length c0_2, .slice A0_3 l0_3.length c0_3]] rfl (by (try simp only [List.map_toArray, List.map_cons, List.map_nil]); first | done | rfl) ?_; (with_reducible refine (loops_Loops.calls k a0_0 a0_1 _ _ l0_2 _ _ l0_3 t315 _ ?side1 ?side2 ?side3 ?side4 A5.out).mono ?_); (case side1 => repeat (first | exact (C_below HR0_2.out HB.out) | (with_reducible refine C_alloc ?_ _) | (with_reducible refine C_drewN ?_ _) | (with_reducible refine C_drew ?_))); (case side2 => exact HC0_2.out); (case side3 => repeat (first | exact (C_below HR0_3.out HB.out) | (with_reducible refine C_alloc ?_ _) | (with_reducible refine C_drewN ?_ _) | (with_reducible refine C_drew ?_))); (case side4 => exact HC0_3.out); rintro e w12 ⟨v316, rfl, ho0, hb⟩; refine ⟨_, rfl, ?_⟩; have n0_ := Aside0.mk (Kd.S_lower ho0 (below_size (by repeat with_reducible first | exact HB.out | apply below_alloc | apply pw_below_drewN | apply below_drew1 | refine below_set ?_ GE312.out))); have n1_ := Aside0.mk (blk_below (g := gb312) (o := .cells #[.int .i64 a0_0, .int .i64 a0_1, .slice A0_2 l0_2.length c0_2, .slice A0_3 l0_3.length c0_3] 25 (0, 0)) (by (with_reducible repeat (first | refine blk_drewN ?_ _ | refine blk_drew ?_ | refine blk_alloc ?_ _)); exact BK312.out) hb); have n2_ := Aside0.mk (below_step (by repeat with_reducible first | exact HB.out | apply below_alloc | apply pw_below_drewN | apply below_drew1 | refine below_set ?_ GE312.out) hb); clear BK312; clear HB; have HO317 := n0_; have BK312 := n1_; have HB := n2_; clear n0_ n1_ n2_; (try clear hb); (try clear hb2); (try clear hk); (try clear hi); (try clear ho0); have hcz13_0 : w12.cell? ⟨gb312, 0, none⟩ = some (.int .i64 a0_0) := (blk_cell BK312.out 0).trans rfl; have hcz13_1 : w12.cell? ⟨gb312, 1, none⟩ = some (.int .i64 a0_1) := (blk_cell BK312.out 1).trans rfl; have hcz13_2 : w12.cell? ⟨gb312, 2, none⟩ = some (.slice A0_2 l0_2.length c0_2) := (blk_cell BK312.out 2).trans rfl; have hcz13_3 : w12.cell? ⟨gb312, 3, none⟩ = some (.slice A0_3 l0_3.length c0_3) := (blk_cell BK312.out 3).trans rfl; have hfz13_0 := blk_frozen BK312.out 0; have hfz13_1 := blk_frozen BK312.out 1; have hfz13_2 := blk_frozen BK312.out 2; have hfz13_3 := blk_frozen BK312.out 3) | ((with_reducible refine gate_callee (f := 17) rfl ?_); refine goesL_ (some 23) rfl rfl Try.func17 (by kernel_rfl) rfl #[.agg #[.int .i64 a0_0, .int .i64 a0_1, .slice A0_2 l0_2.length c0_2, .slice A0_3 l0_3.length c0_3]] rfl (by (try simp only [List.map_toArray, List.map_cons, List.map_nil]); first | done | rfl) ?_; (with_reducible refine (dom_Dominates.calls k a0_0 a0_1 _ _ l0_2 _ _ l0_3 t318 _ ?side1 ?side2 ?side3 ?side4 A6.out).mono ?_); (case side1 => repeat (first | exact (C_below HR0_2.out HB.out) | (with_reducible refine C_alloc ?_ _) | (with_reducible refine C_drewN ?_ _) | (with_reducible refine C_drew ?_))); (case side2 => exact HC0_2.out); (case side3 => repeat (first | exact (C_below HR0_3.out HB.out) | (with_reducible refine C_alloc ?_ _) | (with_reducible refine C_drewN ?_ _) | (with_reducible refine C_drew ?_))); (case side4 => exact HC0_3.out); rintro e w14 ⟨v319, rfl, ho0, hb⟩; refine ⟨_, rfl, ?_⟩; have n0_ := Aside0.mk (Kd.S_below (by (with_reducible repeat (first | apply S_alloc | apply S_drewN | apply S_drew)); exact HO317.out) hb); have n1_ := Aside0.mk (Kd.S_lower ho0 (below_size (by repeat with_reducible first | exact HB.out | apply below_alloc | apply pw_below_drewN | apply below_drew1 | refine below_set ?_ GE312.out))); have n2_ := Aside0.mk (blk_below (g := gb312) (o := .cells #[.int .i64 a0_0, .int .i64 a0_1, .slice A0_2 l0_2.length c0_2, .slice A0_3 l0_3.length c0_3] 25 (0, 0)) (by (with_reducible repeat (first | refine blk_drewN ?_ _ | refine blk_drew ?_ | refine blk_alloc ?_ _)); exact BK312.out) hb); have n3_ := Aside0.mk (below_step (by repeat with_reducible first | exact HB.out | apply below_alloc | apply pw_below_drewN | apply below_drew1 | refine below_set ?_ GE312.out) hb); clear HO317; clear BK312; clear HB; have HO317 := n0_; have HO320 := n1_; have BK312 := n2_; have HB := n3_; clear n0_ n1_ n2_ n3_; (try clear hb); (try clear hb2); (try clear hk); (try clear hi); (try clear ho0)))
    go_loopg [7] k (fun kq v7 w' => ∃ (x7_1 : Int), v7 = .int .i64 x7_1 ∧ Aside0 (fettlelaw07_LoopsLie.l0 kq t313 t315 t318 x7_1 = some r) ∧ Aside0 (kq ≤ k) ∧ Aside0 (Kd.S k44 44 w' w.heap.size (fun _ => True) v316 t315) ∧ Aside0 (Kd.S (Kd.slice 4 Kd.bool) 34 w' w.heap.size (fun _ => True) v319 t318) ∧ Aside0 (w'.heap[gb312]? = some (.cells #[.int .i64 a0_0, .int .i64 a0_1, (.slice A0_2 l0_2.length c0_2), (.slice A0_3 l0_3.length c0_3)] 25 (0, 0))) ∧ Aside0 (Below w.heap.size w w'))
    case atStart => exact ⟨(0), (by first | rfl | (simp; done) | (simp [*]; done)), H', ⟨Nat.le_refl _⟩, ⟨by (with_reducible repeat (first | apply S_alloc | apply S_drewN | apply S_drew)); exact HO317.out⟩, ⟨by (with_reducible repeat (first | apply S_alloc | apply S_drewN | apply S_drew)); exact HO320.out⟩, ⟨by (with_reducible repeat (first | refine blk_drewN ?_ _ | refine blk_drew ?_ | refine blk_alloc ?_ _)); exact BK312.out⟩, ⟨by repeat (first | (with_reducible first | exact HB.out | apply below_alloc | apply pw_below_drewN | apply below_drew1 | refine below_set ?_ GE312.out) | exact HB.out)⟩⟩
    clear H'
    try clear c1
    try clear c2
    try clear p2
    try clear c4
    try clear c8
    try clear hcz11_0
    try clear hcz11_1
    try clear hcz11_2
    try clear hcz11_3
    try clear hcz13_0
    try clear hcz13_1
    try clear hcz13_2
    try clear hcz13_3
    try clear hcz9_0
    try clear hcz9_1
    try clear hcz9_2
    try clear hcz9_3
    try clear hfz11_0
    try clear hfz11_1
    try clear hfz11_2
    try clear hfz11_3
    try clear hfz13_0
    try clear hfz13_1
    try clear hfz13_2
    try clear hfz13_3
    try clear hfz9_0
    try clear hfz9_1
    try clear hfz9_2
    try clear hfz9_3
    obtain ⟨x7_1, rfl, HA, HK1, HO_5, HO_6, BK312, HB⟩ := hrel
    rcases gk with _ | k1
    · exact absurd HA.out (by simp [fettlelaw07_LoopsLie.l0])
    have H := HA.out
    clear HA
    simp only [fettlelaw07_LoopsLie.l0] at H
    by_cases c15 : x7_1 < (t315.length : Int)
    · rw [if_pos c15] at H
      have c15b0 : decide (x7_1 < (t315.length : Int)) = true := decide_eq_true c15
      clear c15
      have H' := Aside0.mk H
      clear H
      obtain ⟨Ao16, co16, eo16⟩ := Kd.S_slice HO_5.out
      subst eo16
      go_wp2
      go_loopg [8] k1 (fun kq v8 w' => ∃ (x8_2 : Int), v8 = .int .i64 x8_2 ∧ Aside0 (fettlelaw07_LoopsLie.l1 kq t313 t315 t318 x7_1 x8_2 = some r) ∧ Aside0 (kq ≤ k1) ∧ Aside0 (Kd.S k44 44 w' w.heap.size (fun _ => True) (.slice Ao16 t315.length co16) t315) ∧ Aside0 (Kd.S (Kd.slice 4 Kd.bool) 34 w' w.heap.size (fun _ => True) v319 t318) ∧ Aside0 (w'.heap[gb312]? = some (.cells #[.int .i64 a0_0, .int .i64 a0_1, (.slice A0_2 l0_2.length c0_2), (.slice A0_3 l0_3.length c0_3)] 25 (0, 0))) ∧ Aside0 (Below w.heap.size w w'))
      case atStart => exact ⟨(0), (by first | rfl | (simp; done) | (simp [*]; done)), H', ⟨Nat.le_refl _⟩, ⟨by (with_reducible repeat (first | apply S_alloc | apply S_drewN | apply S_drew)); exact HO_5.out⟩, ⟨by (with_reducible repeat (first | apply S_alloc | apply S_drewN | apply S_drew)); exact HO_6.out⟩, ⟨by (with_reducible repeat (first | refine blk_drewN ?_ _ | refine blk_drew ?_ | refine blk_alloc ?_ _)); exact BK312.out⟩, ⟨by repeat (first | (with_reducible first | exact HB.out | apply below_alloc | apply pw_below_drewN | apply below_drew1 | refine below_set ?_ GE312.out) | exact HB.out)⟩⟩
      clear H'
      try clear c1
      try clear c2
      try clear p2
      try clear c4
      try clear c8
      try clear c15
      try clear c15b0
      try clear hcz11_0
      try clear hcz11_1
      try clear hcz11_2
      try clear hcz11_3
      try clear hcz13_0
      try clear hcz13_1
      try clear hcz13_2
      try clear hcz13_3
      try clear hcz9_0
      try clear hcz9_1
      try clear hcz9_2
      try clear hcz9_3
      try clear hfz11_0
      try clear hfz11_1
      try clear hfz11_2
      try clear hfz11_3
      try clear hfz13_0
      try clear hfz13_1
      try clear hfz13_2
      try clear hfz13_3
      try clear hfz9_0
      try clear hfz9_1
      try clear hfz9_2
      try clear hfz9_3
      try clear p2
      obtain ⟨x8_2, rfl, HA, HK2, HO_5, HO_6, BK312, HB⟩ := hrel
      rcases gk with _ | k2
      · exact absurd HA.out (by simp [fettlelaw07_LoopsLie.l1])
      have H := HA.out
      clear HA
      simp only [fettlelaw07_LoopsLie.l1] at H
      by_cases c17 : 0 ≤ x7_1
      rotate_left
      · rw [if_neg c17] at H
        exact absurd H (by simp)
      rw [if_pos c17] at H
      have c17b0 : decide (0 ≤ x7_1) = true := decide_eq_true c17
      clear c17
      by_cases c18 : x7_1 < (t315.length : Int)
      rotate_left
      · rw [if_neg c18] at H
        exact absurd H (by simp)
      rw [if_pos c18] at H
      have c18b0 : decide (x7_1 < (t315.length : Int)) = true := decide_eq_true c18
      clear c18
      by_cases c19 : x8_2 < (((rd_T44 t315 x7_1).f1).length : Int)
      · rw [if_pos c19] at H
        have c19b0 : decide (x8_2 < (((rd_T44 t315 x7_1).f1).length : Int)) = true := decide_eq_true c19
        clear c19
        by_cases c20 : 0 ≤ x8_2
        rotate_left
        · rw [if_neg c20] at H
          exact absurd H (by simp)
        rw [if_pos c20] at H
        have c20b0 : decide (0 ≤ x8_2) = true := decide_eq_true c20
        clear c20
        by_cases c21 : (rd ((rd_T44 t315 x7_1).f1) x8_2) < 0
        · rw [if_pos c21] at H
          have c21b0 : decide ((rd ((rd_T44 t315 x7_1).f1) x8_2) < 0) = true := decide_eq_true c21
          clear c21
          obtain rfl := Option.some.inj H
          have p321 : 0 ≤ (x7_1 : Int) := of_decide_eq_true (by with_reducible assumption)
          have q321 : x7_1 < (t315.length : Int) := of_decide_eq_true (by with_reducible assumption)
          obtain ⟨ad321, A321_1, c321_1, A321_2, c321_2, e321, hx321_0, hx321_1, hx321_2, hl321_1, hi321_1, hl321_2, hi321_2⟩ := at_T44 (S_reads' HO_5.out).2.2 x7_1 p321 q321
          cases e321
          obtain ⟨ce321, hce321, hMe321, hcc321⟩ := S_get HO_5.out z44 x7_1 p321 (by first | exact q321 | exact of_decide_eq_true (by with_reducible assumption) | (have e_ := (S_reads' HO_5.out).1; omega))
          obtain ⟨ve321_1, ve321_2, rfl, ge321_1, ge321_2⟩ := k44_openM hMe321
          have hv321_1 := hcc321 1 _ rfl
          rw [add_field _ _ 1 (by omega)] at hv321_1
          replace hv321_1 := Option.some.inj (hv321_1.symm.trans hx321_1)
          rw [hv321_1] at ge321_1
          have HL321_1 := Aside0.mk (show Kd.R (Kd.int .i64) 3 _ _ _ _ ((rd_T44 t315 x7_1).f1) from ge321_1)
          clear hv321_1 ge321_1
          have hv321_2 := hcc321 2 _ rfl
          rw [add_field _ _ 2 (by omega)] at hv321_2
          replace hv321_2 := Option.some.inj (hv321_2.symm.trans hx321_2)
          rw [hv321_2] at ge321_2
          have HL321_2 := Aside0.mk (show Kd.R (Kd.int .i64) 3 _ _ _ _ ((rd_T44 t315 x7_1).f2) from ge321_2)
          clear hv321_2 ge321_2
          clear hcc321 hce321
          have HR321_1 := Aside0.mk hi321_1
          have HC321_1 := Aside0.mk hl321_1
          clear hi321_1 hl321_1
          have HR321_2 := Aside0.mk hi321_2
          have HC321_2 := Aside0.mk hl321_2
          clear hi321_2 hl321_2
          replace p321 := eq_true p321
          replace q321 := eq_true q321
          have HR322_1 := HR321_1
          have p323 : 0 ≤ (x8_2 : Int) := of_decide_eq_true (by with_reducible assumption)
          have q323 : x8_2 < (((rd_T44 t315 x7_1).f1).length : Int) := of_decide_eq_true (by with_reducible assumption)
          obtain ⟨ad323, e323, hx323_0⟩ := Kd.at_int (by repeat with_reducible first | exact HR322_1.out | refine C_alloc ?_ _ | refine C_drewN ?_ _ | refine C_drew ?_) x8_2 p323 q323
          cases e323
          replace p323 := eq_true p323
          replace q323 := eq_true q323
          go_wp2
          go_ret
          exact ⟨by first | rfl | (simp [errW_none, errW_some] <;> rfl) | (simp [*, errW_none, errW_some] <;> rfl), by repeat (first | (with_reducible first | exact HB.out | apply below_alloc | apply pw_below_drewN | apply below_drew1 | refine below_set ?_ GE312.out) | exact HB.out)⟩
        rw [if_neg c21] at H
        have c21b0 : decide ((rd ((rd_T44 t315 x7_1).f1) x8_2) < 0) = false := decide_eq_false c21
        clear c21
        by_cases c22 : (rd ((rd_T44 t315 x7_1).f1) x8_2) ≥ (t318.length : Int)
        · rw [if_pos c22] at H
          have c22b0 : decide ((t318.length : Int) ≤ (rd ((rd_T44 t315 x7_1).f1) x8_2)) = true := decide_eq_true c22
          clear c22
          obtain rfl := Option.some.inj H
          have p321 : 0 ≤ (x7_1 : Int) := of_decide_eq_true (by with_reducible assumption)
          have q321 : x7_1 < (t315.length : Int) := of_decide_eq_true (by with_reducible assumption)
          obtain ⟨ad321, A321_1, c321_1, A321_2, c321_2, e321, hx321_0, hx321_1, hx321_2, hl321_1, hi321_1, hl321_2, hi321_2⟩ := at_T44 (S_reads' HO_5.out).2.2 x7_1 p321 q321
          cases e321
          obtain ⟨ce321, hce321, hMe321, hcc321⟩ := S_get HO_5.out z44 x7_1 p321 (by first | exact q321 | exact of_decide_eq_true (by with_reducible assumption) | (have e_ := (S_reads' HO_5.out).1; omega))
          obtain ⟨ve321_1, ve321_2, rfl, ge321_1, ge321_2⟩ := k44_openM hMe321
          have hv321_1 := hcc321 1 _ rfl
          rw [add_field _ _ 1 (by omega)] at hv321_1
          replace hv321_1 := Option.some.inj (hv321_1.symm.trans hx321_1)
          rw [hv321_1] at ge321_1
          have HL321_1 := Aside0.mk (show Kd.R (Kd.int .i64) 3 _ _ _ _ ((rd_T44 t315 x7_1).f1) from ge321_1)
          clear hv321_1 ge321_1
          have hv321_2 := hcc321 2 _ rfl
          rw [add_field _ _ 2 (by omega)] at hv321_2
          replace hv321_2 := Option.some.inj (hv321_2.symm.trans hx321_2)
          rw [hv321_2] at ge321_2
          have HL321_2 := Aside0.mk (show Kd.R (Kd.int .i64) 3 _ _ _ _ ((rd_T44 t315 x7_1).f2) from ge321_2)
          clear hv321_2 ge321_2
          clear hcc321 hce321
          have HR321_1 := Aside0.mk hi321_1
          have HC321_1 := Aside0.mk hl321_1
          clear hi321_1 hl321_1
          have HR321_2 := Aside0.mk hi321_2
          have HC321_2 := Aside0.mk hl321_2
          clear hi321_2 hl321_2
          replace p321 := eq_true p321
          replace q321 := eq_true q321
          have HR322_1 := HR321_1
          have p323 : 0 ≤ (x8_2 : Int) := of_decide_eq_true (by with_reducible assumption)
          have q323 : x8_2 < (((rd_T44 t315 x7_1).f1).length : Int) := of_decide_eq_true (by with_reducible assumption)
          obtain ⟨ad323, e323, hx323_0⟩ := Kd.at_int (by repeat with_reducible first | exact HR322_1.out | refine C_alloc ?_ _ | refine C_drewN ?_ _ | refine C_drew ?_) x8_2 p323 q323
          cases e323
          replace p323 := eq_true p323
          replace q323 := eq_true q323
          obtain ⟨Ao23, co23, eo23⟩ := Kd.S_slice HO_6.out
          subst eo23
          go_wp2
          go_ret
          exact ⟨by first | rfl | (simp [errW_none, errW_some] <;> rfl) | (simp [*, errW_none, errW_some] <;> rfl), by repeat (first | (with_reducible first | exact HB.out | apply below_alloc | apply pw_below_drewN | apply below_drew1 | refine below_set ?_ GE312.out) | exact HB.out)⟩
        rw [if_neg c22] at H
        have c22b0 : decide ((t318.length : Int) ≤ (rd ((rd_T44 t315 x7_1).f1) x8_2)) = false := decide_eq_false c22
        clear c22
        by_cases c24 : ((rd_T44 t315 x7_1).f0) < 0
        · rw [if_pos c24] at H
          have c24b0 : decide (((rd_T44 t315 x7_1).f0) < 0) = true := decide_eq_true c24
          clear c24
          obtain rfl := Option.some.inj H
          have p321 : 0 ≤ (x7_1 : Int) := of_decide_eq_true (by with_reducible assumption)
          have q321 : x7_1 < (t315.length : Int) := of_decide_eq_true (by with_reducible assumption)
          obtain ⟨ad321, A321_1, c321_1, A321_2, c321_2, e321, hx321_0, hx321_1, hx321_2, hl321_1, hi321_1, hl321_2, hi321_2⟩ := at_T44 (S_reads' HO_5.out).2.2 x7_1 p321 q321
          cases e321
          obtain ⟨ce321, hce321, hMe321, hcc321⟩ := S_get HO_5.out z44 x7_1 p321 (by first | exact q321 | exact of_decide_eq_true (by with_reducible assumption) | (have e_ := (S_reads' HO_5.out).1; omega))
          obtain ⟨ve321_1, ve321_2, rfl, ge321_1, ge321_2⟩ := k44_openM hMe321
          have hv321_1 := hcc321 1 _ rfl
          rw [add_field _ _ 1 (by omega)] at hv321_1
          replace hv321_1 := Option.some.inj (hv321_1.symm.trans hx321_1)
          rw [hv321_1] at ge321_1
          have HL321_1 := Aside0.mk (show Kd.R (Kd.int .i64) 3 _ _ _ _ ((rd_T44 t315 x7_1).f1) from ge321_1)
          clear hv321_1 ge321_1
          have hv321_2 := hcc321 2 _ rfl
          rw [add_field _ _ 2 (by omega)] at hv321_2
          replace hv321_2 := Option.some.inj (hv321_2.symm.trans hx321_2)
          rw [hv321_2] at ge321_2
          have HL321_2 := Aside0.mk (show Kd.R (Kd.int .i64) 3 _ _ _ _ ((rd_T44 t315 x7_1).f2) from ge321_2)
          clear hv321_2 ge321_2
          clear hcc321 hce321
          have HR321_1 := Aside0.mk hi321_1
          have HC321_1 := Aside0.mk hl321_1
          clear hi321_1 hl321_1
          have HR321_2 := Aside0.mk hi321_2
          have HC321_2 := Aside0.mk hl321_2
          clear hi321_2 hl321_2
          replace p321 := eq_true p321
          replace q321 := eq_true q321
          have HR322_1 := HR321_1
          have p323 : 0 ≤ (x8_2 : Int) := of_decide_eq_true (by with_reducible assumption)
          have q323 : x8_2 < (((rd_T44 t315 x7_1).f1).length : Int) := of_decide_eq_true (by with_reducible assumption)
          obtain ⟨ad323, e323, hx323_0⟩ := Kd.at_int (by repeat with_reducible first | exact HR322_1.out | refine C_alloc ?_ _ | refine C_drewN ?_ _ | refine C_drew ?_) x8_2 p323 q323
          cases e323
          replace p323 := eq_true p323
          replace q323 := eq_true q323
          obtain ⟨Ao25, co25, eo25⟩ := Kd.S_slice HO_6.out
          subst eo25
          go_wp2
          go_ret
          exact ⟨by first | rfl | (simp [errW_none, errW_some] <;> rfl) | (simp [*, errW_none, errW_some] <;> rfl), by repeat (first | (with_reducible first | exact HB.out | apply below_alloc | apply pw_below_drewN | apply below_drew1 | refine below_set ?_ GE312.out) | exact HB.out)⟩
        rw [if_neg c24] at H
        have c24b0 : decide (((rd_T44 t315 x7_1).f0) < 0) = false := decide_eq_false c24
        clear c24
        by_cases c26 : ((rd_T44 t315 x7_1).f0) ≥ (t318.length : Int)
        · rw [if_pos c26] at H
          have c26b0 : decide ((t318.length : Int) ≤ ((rd_T44 t315 x7_1).f0)) = true := decide_eq_true c26
          clear c26
          obtain rfl := Option.some.inj H
          have p321 : 0 ≤ (x7_1 : Int) := of_decide_eq_true (by with_reducible assumption)
          have q321 : x7_1 < (t315.length : Int) := of_decide_eq_true (by with_reducible assumption)
          obtain ⟨ad321, A321_1, c321_1, A321_2, c321_2, e321, hx321_0, hx321_1, hx321_2, hl321_1, hi321_1, hl321_2, hi321_2⟩ := at_T44 (S_reads' HO_5.out).2.2 x7_1 p321 q321
          cases e321
          obtain ⟨ce321, hce321, hMe321, hcc321⟩ := S_get HO_5.out z44 x7_1 p321 (by first | exact q321 | exact of_decide_eq_true (by with_reducible assumption) | (have e_ := (S_reads' HO_5.out).1; omega))
          obtain ⟨ve321_1, ve321_2, rfl, ge321_1, ge321_2⟩ := k44_openM hMe321
          have hv321_1 := hcc321 1 _ rfl
          rw [add_field _ _ 1 (by omega)] at hv321_1
          replace hv321_1 := Option.some.inj (hv321_1.symm.trans hx321_1)
          rw [hv321_1] at ge321_1
          have HL321_1 := Aside0.mk (show Kd.R (Kd.int .i64) 3 _ _ _ _ ((rd_T44 t315 x7_1).f1) from ge321_1)
          clear hv321_1 ge321_1
          have hv321_2 := hcc321 2 _ rfl
          rw [add_field _ _ 2 (by omega)] at hv321_2
          replace hv321_2 := Option.some.inj (hv321_2.symm.trans hx321_2)
          rw [hv321_2] at ge321_2
          have HL321_2 := Aside0.mk (show Kd.R (Kd.int .i64) 3 _ _ _ _ ((rd_T44 t315 x7_1).f2) from ge321_2)
          clear hv321_2 ge321_2
          clear hcc321 hce321
          have HR321_1 := Aside0.mk hi321_1
          have HC321_1 := Aside0.mk hl321_1
          clear hi321_1 hl321_1
          have HR321_2 := Aside0.mk hi321_2
          have HC321_2 := Aside0.mk hl321_2
          clear hi321_2 hl321_2
          replace p321 := eq_true p321
          replace q321 := eq_true q321
          have HR322_1 := HR321_1
          have p323 : 0 ≤ (x8_2 : Int) := of_decide_eq_true (by with_reducible assumption)
          have q323 : x8_2 < (((rd_T44 t315 x7_1).f1).length : Int) := of_decide_eq_true (by with_reducible assumption)
          obtain ⟨ad323, e323, hx323_0⟩ := Kd.at_int (by repeat with_reducible first | exact HR322_1.out | refine C_alloc ?_ _ | refine C_drewN ?_ _ | refine C_drew ?_) x8_2 p323 q323
          cases e323
          replace p323 := eq_true p323
          replace q323 := eq_true q323
          obtain ⟨Ao27, co27, eo27⟩ := Kd.S_slice HO_6.out
          subst eo27
          go_wp2
          go_ret
          exact ⟨by first | rfl | (simp [errW_none, errW_some] <;> rfl) | (simp [*, errW_none, errW_some] <;> rfl), by repeat (first | (with_reducible first | exact HB.out | apply below_alloc | apply pw_below_drewN | apply below_drew1 | refine below_set ?_ GE312.out) | exact HB.out)⟩
        rw [if_neg c26] at H
        have c26b0 : decide ((t318.length : Int) ≤ ((rd_T44 t315 x7_1).f0)) = false := decide_eq_false c26
        clear c26
        by_cases c28 : 0 ≤ ((rd_T44 t315 x7_1).f0)
        rotate_left
        · rw [if_neg c28] at H
          exact absurd H (by simp)
        rw [if_pos c28] at H
        have c28b0 : decide (0 ≤ ((rd_T44 t315 x7_1).f0)) = true := decide_eq_true c28
        clear c28
        by_cases c29 : ((rd_T44 t315 x7_1).f0) < (t318.length : Int)
        rotate_left
        · rw [if_neg c29] at H
          exact absurd H (by simp)
        rw [if_pos c29] at H
        have c29b0 : decide (((rd_T44 t315 x7_1).f0) < (t318.length : Int)) = true := decide_eq_true c29
        clear c29
        by_cases c30 : ((rd_L11 t318 ((rd_T44 t315 x7_1).f0)).length : Int) = (t318.length : Int)
        · rw [if_pos c30] at H
          have c30b0 : (((rd_L11 t318 ((rd_T44 t315 x7_1).f0)).length : Int) == (t318.length : Int)) = true := beq_iff_eq.mpr c30
          have c30b1 : (((rd_L11 t318 ((rd_T44 t315 x7_1).f0)).length : Int) != (t318.length : Int)) = false := bne_eq_false_iff_eq.mpr c30
          have c30b2 : ((rd_L11 t318 ((rd_T44 t315 x7_1).f0)).length == t318.length) = true := by first | simpa using c30 | (simp at c30 ⊢; omega)
          clear c30
          by_cases c31 : 0 ≤ (rd ((rd_T44 t315 x7_1).f1) x8_2)
          rotate_left
          · rw [if_neg c31] at H
            exact absurd H (by simp)
          rw [if_pos c31] at H
          have c31b0 : decide (0 ≤ (rd ((rd_T44 t315 x7_1).f1) x8_2)) = true := decide_eq_true c31
          clear c31
          by_cases c32 : (rd ((rd_T44 t315 x7_1).f1) x8_2) < ((rd_L11 t318 ((rd_T44 t315 x7_1).f0)).length : Int)
          rotate_left
          · rw [if_neg c32] at H
            exact absurd H (by simp)
          rw [if_pos c32] at H
          have c32b0 : decide ((rd ((rd_T44 t315 x7_1).f1) x8_2) < ((rd_L11 t318 ((rd_T44 t315 x7_1).f0)).length : Int)) = true := decide_eq_true c32
          clear c32
          obtain ⟨bq33, hbq33⟩ : ∃ b_ : Bool, b_ = (rdOf false (rd_L11 t318 ((rd_T44 t315 x7_1).f0)) (rd ((rd_T44 t315 x7_1).f1) x8_2)) := ⟨_, rfl⟩
          replace H : (if (bq33 = true) then (fettlelaw07_LoopsLie.l1 k2 t313 t315 t318 x7_1 (wrap64 (x8_2 + 1))) else (some false)) = some r := by rw [← hbq33] at H; exact H
          have Nbq33 := Aside0.mk hbq33
          clear hbq33
          by_cases c34 : (bq33 = true)
          · subst c34
            have H1 : (fettlelaw07_LoopsLie.l1 k2 t313 t315 t318 x7_1 (wrap64 (x8_2 + 1))) = some r := by rw [if_pos rfl] at H; exact H
            clear H
            have H := H1
            clear H1
            have H' := Aside0.mk H
            clear H
            have p321 : 0 ≤ (x7_1 : Int) := of_decide_eq_true (by with_reducible assumption)
            have q321 : x7_1 < (t315.length : Int) := of_decide_eq_true (by with_reducible assumption)
            obtain ⟨ad321, A321_1, c321_1, A321_2, c321_2, e321, hx321_0, hx321_1, hx321_2, hl321_1, hi321_1, hl321_2, hi321_2⟩ := at_T44 (S_reads' HO_5.out).2.2 x7_1 p321 q321
            cases e321
            obtain ⟨ce321, hce321, hMe321, hcc321⟩ := S_get HO_5.out z44 x7_1 p321 (by first | exact q321 | exact of_decide_eq_true (by with_reducible assumption) | (have e_ := (S_reads' HO_5.out).1; omega))
            obtain ⟨ve321_1, ve321_2, rfl, ge321_1, ge321_2⟩ := k44_openM hMe321
            have hv321_1 := hcc321 1 _ rfl
            rw [add_field _ _ 1 (by omega)] at hv321_1
            replace hv321_1 := Option.some.inj (hv321_1.symm.trans hx321_1)
            rw [hv321_1] at ge321_1
            have HL321_1 := Aside0.mk (show Kd.R (Kd.int .i64) 3 _ _ _ _ ((rd_T44 t315 x7_1).f1) from ge321_1)
            clear hv321_1 ge321_1
            have hv321_2 := hcc321 2 _ rfl
            rw [add_field _ _ 2 (by omega)] at hv321_2
            replace hv321_2 := Option.some.inj (hv321_2.symm.trans hx321_2)
            rw [hv321_2] at ge321_2
            have HL321_2 := Aside0.mk (show Kd.R (Kd.int .i64) 3 _ _ _ _ ((rd_T44 t315 x7_1).f2) from ge321_2)
            clear hv321_2 ge321_2
            clear hcc321 hce321
            have HR321_1 := Aside0.mk hi321_1
            have HC321_1 := Aside0.mk hl321_1
            clear hi321_1 hl321_1
            have HR321_2 := Aside0.mk hi321_2
            have HC321_2 := Aside0.mk hl321_2
            clear hi321_2 hl321_2
            replace p321 := eq_true p321
            replace q321 := eq_true q321
            have HR322_1 := HR321_1
            have p323 : 0 ≤ (x8_2 : Int) := of_decide_eq_true (by with_reducible assumption)
            have q323 : x8_2 < (((rd_T44 t315 x7_1).f1).length : Int) := of_decide_eq_true (by with_reducible assumption)
            obtain ⟨ad323, e323, hx323_0⟩ := Kd.at_int (by repeat with_reducible first | exact HR322_1.out | refine C_alloc ?_ _ | refine C_drewN ?_ _ | refine C_drew ?_) x8_2 p323 q323
            cases e323
            replace p323 := eq_true p323
            replace q323 := eq_true q323
            obtain ⟨Ao35, co35, eo35⟩ := Kd.S_slice HO_6.out
            subst eo35
            have p327 : 0 ≤ (((rd_T44 t315 x7_1).f0) : Int) := of_decide_eq_true (by with_reducible assumption)
            have q327 : ((rd_T44 t315 x7_1).f0) < (t318.length : Int) := of_decide_eq_true (by with_reducible assumption)
            obtain ⟨ad327, A327_0, c327_0, e327, hx327_0, hl327_0, hi327_0⟩ := at_L11 (S_reads' HO_6.out).2.2 ((rd_T44 t315 x7_1).f0) p327 q327
            cases e327
            obtain ⟨ce327, hce327, hMe327, hcc327⟩ := S_get HO_6.out [] ((rd_T44 t315 x7_1).f0) p327 (by first | exact q327 | exact of_decide_eq_true (by with_reducible assumption) | (have e_ := (S_reads' HO_6.out).1; omega))
            obtain ⟨ve327_0, rfl, ge327_0⟩ := hMe327
            have hv327_0 := hcc327 0 _ rfl
            rw [Nat.add_zero, show ((Kd.slice 4 Kd.bool)).sz = 1 from rfl, Nat.mul_one] at hv327_0
            replace hv327_0 := Option.some.inj (hv327_0.symm.trans hx327_0)
            rw [hv327_0] at ge327_0
            have HL327_0 := Aside0.mk (show Kd.R Kd.bool 4 _ _ _ _ (rd_L11 t318 ((rd_T44 t315 x7_1).f0)) from ge327_0)
            clear hv327_0 ge327_0
            clear hcc327 hce327
            have HR327_0 := Aside0.mk hi327_0
            have HC327_0 := Aside0.mk hl327_0
            clear hi327_0 hl327_0
            replace p327 := eq_true p327
            replace q327 := eq_true q327
            have HR329_0 := HR327_0
            have p330 : 0 ≤ ((rd ((rd_T44 t315 x7_1).f1) x8_2) : Int) := of_decide_eq_true (by with_reducible assumption)
            have q330 : (rd ((rd_T44 t315 x7_1).f1) x8_2) < ((rd_L11 t318 ((rd_T44 t315 x7_1).f0)).length : Int) := of_decide_eq_true (by with_reducible assumption)
            obtain ⟨ad330, e330, hx330_0⟩ := Kd.at_bool (by repeat with_reducible first | exact HR329_0.out | refine C_alloc ?_ _ | refine C_drewN ?_ _ | refine C_drew ?_) (rd ((rd_T44 t315 x7_1).f1) x8_2) p330 q330
            (try rw [← Nbq33.out] at hx330_0)
            cases e330
            replace p330 := eq_true p330
            replace q330 := eq_true q330
            go_wp2
            go_roundg k2
            case measure => have := HK1.out; have := HK2.out; omega
            case rel => exact ⟨(wrap64 (x8_2 + 1)), (by first | rfl | (simp; done) | (simp [*]; done)), H', ⟨by have := HK1.out; have := HK2.out; omega⟩, ⟨by (with_reducible repeat (first | apply S_alloc | apply S_drewN | apply S_drew)); exact HO_5.out⟩, ⟨by (with_reducible repeat (first | apply S_alloc | apply S_drewN | apply S_drew)); exact HO_6.out⟩, ⟨by (with_reducible repeat (first | refine blk_drewN ?_ _ | refine blk_drew ?_ | refine blk_alloc ?_ _)); exact BK312.out⟩, ⟨by repeat (first | (with_reducible first | exact HB.out | apply below_alloc | apply pw_below_drewN | apply below_drew1 | refine below_set ?_ GE312.out) | exact HB.out)⟩⟩
          replace c34 := Bool.eq_false_iff.mpr c34
          subst c34
          have H1 : (some false) = some r := by rw [if_neg (show ¬ (false = true) by decide)] at H; exact H
          clear H
          have H := H1
          clear H1
          obtain rfl := Option.some.inj H
          have p321 : 0 ≤ (x7_1 : Int) := of_decide_eq_true (by with_reducible assumption)
          have q321 : x7_1 < (t315.length : Int) := of_decide_eq_true (by with_reducible assumption)
          obtain ⟨ad321, A321_1, c321_1, A321_2, c321_2, e321, hx321_0, hx321_1, hx321_2, hl321_1, hi321_1, hl321_2, hi321_2⟩ := at_T44 (S_reads' HO_5.out).2.2 x7_1 p321 q321
          cases e321
          obtain ⟨ce321, hce321, hMe321, hcc321⟩ := S_get HO_5.out z44 x7_1 p321 (by first | exact q321 | exact of_decide_eq_true (by with_reducible assumption) | (have e_ := (S_reads' HO_5.out).1; omega))
          obtain ⟨ve321_1, ve321_2, rfl, ge321_1, ge321_2⟩ := k44_openM hMe321
          have hv321_1 := hcc321 1 _ rfl
          rw [add_field _ _ 1 (by omega)] at hv321_1
          replace hv321_1 := Option.some.inj (hv321_1.symm.trans hx321_1)
          rw [hv321_1] at ge321_1
          have HL321_1 := Aside0.mk (show Kd.R (Kd.int .i64) 3 _ _ _ _ ((rd_T44 t315 x7_1).f1) from ge321_1)
          clear hv321_1 ge321_1
          have hv321_2 := hcc321 2 _ rfl
          rw [add_field _ _ 2 (by omega)] at hv321_2
          replace hv321_2 := Option.some.inj (hv321_2.symm.trans hx321_2)
          rw [hv321_2] at ge321_2
          have HL321_2 := Aside0.mk (show Kd.R (Kd.int .i64) 3 _ _ _ _ ((rd_T44 t315 x7_1).f2) from ge321_2)
          clear hv321_2 ge321_2
          clear hcc321 hce321
          have HR321_1 := Aside0.mk hi321_1
          have HC321_1 := Aside0.mk hl321_1
          clear hi321_1 hl321_1
          have HR321_2 := Aside0.mk hi321_2
          have HC321_2 := Aside0.mk hl321_2
          clear hi321_2 hl321_2
          replace p321 := eq_true p321
          replace q321 := eq_true q321
          have HR322_1 := HR321_1
          have p323 : 0 ≤ (x8_2 : Int) := of_decide_eq_true (by with_reducible assumption)
          have q323 : x8_2 < (((rd_T44 t315 x7_1).f1).length : Int) := of_decide_eq_true (by with_reducible assumption)
          obtain ⟨ad323, e323, hx323_0⟩ := Kd.at_int (by repeat with_reducible first | exact HR322_1.out | refine C_alloc ?_ _ | refine C_drewN ?_ _ | refine C_drew ?_) x8_2 p323 q323
          cases e323
          replace p323 := eq_true p323
          replace q323 := eq_true q323
          obtain ⟨Ao36, co36, eo36⟩ := Kd.S_slice HO_6.out
          subst eo36
          have p327 : 0 ≤ (((rd_T44 t315 x7_1).f0) : Int) := of_decide_eq_true (by with_reducible assumption)
          have q327 : ((rd_T44 t315 x7_1).f0) < (t318.length : Int) := of_decide_eq_true (by with_reducible assumption)
          obtain ⟨ad327, A327_0, c327_0, e327, hx327_0, hl327_0, hi327_0⟩ := at_L11 (S_reads' HO_6.out).2.2 ((rd_T44 t315 x7_1).f0) p327 q327
          cases e327
          obtain ⟨ce327, hce327, hMe327, hcc327⟩ := S_get HO_6.out [] ((rd_T44 t315 x7_1).f0) p327 (by first | exact q327 | exact of_decide_eq_true (by with_reducible assumption) | (have e_ := (S_reads' HO_6.out).1; omega))
          obtain ⟨ve327_0, rfl, ge327_0⟩ := hMe327
          have hv327_0 := hcc327 0 _ rfl
          rw [Nat.add_zero, show ((Kd.slice 4 Kd.bool)).sz = 1 from rfl, Nat.mul_one] at hv327_0
          replace hv327_0 := Option.some.inj (hv327_0.symm.trans hx327_0)
          rw [hv327_0] at ge327_0
          have HL327_0 := Aside0.mk (show Kd.R Kd.bool 4 _ _ _ _ (rd_L11 t318 ((rd_T44 t315 x7_1).f0)) from ge327_0)
          clear hv327_0 ge327_0
          clear hcc327 hce327
          have HR327_0 := Aside0.mk hi327_0
          have HC327_0 := Aside0.mk hl327_0
          clear hi327_0 hl327_0
          replace p327 := eq_true p327
          replace q327 := eq_true q327
          have HR329_0 := HR327_0
          have p330 : 0 ≤ ((rd ((rd_T44 t315 x7_1).f1) x8_2) : Int) := of_decide_eq_true (by with_reducible assumption)
          have q330 : (rd ((rd_T44 t315 x7_1).f1) x8_2) < ((rd_L11 t318 ((rd_T44 t315 x7_1).f0)).length : Int) := of_decide_eq_true (by with_reducible assumption)
          obtain ⟨ad330, e330, hx330_0⟩ := Kd.at_bool (by repeat with_reducible first | exact HR329_0.out | refine C_alloc ?_ _ | refine C_drewN ?_ _ | refine C_drew ?_) (rd ((rd_T44 t315 x7_1).f1) x8_2) p330 q330
          (try rw [← Nbq33.out] at hx330_0)
          cases e330
          replace p330 := eq_true p330
          replace q330 := eq_true q330
          go_wp2
          go_ret
          exact ⟨by first | rfl | (simp [errW_none, errW_some] <;> rfl) | (simp [*, errW_none, errW_some] <;> rfl), by repeat (first | (with_reducible first | exact HB.out | apply below_alloc | apply pw_below_drewN | apply below_drew1 | refine below_set ?_ GE312.out) | exact HB.out)⟩
        rw [if_neg c30] at H
        have c30b0 : (((rd_L11 t318 ((rd_T44 t315 x7_1).f0)).length : Int) == (t318.length : Int)) = false := beq_eq_false_iff_ne.mpr c30
        have c30b1 : (((rd_L11 t318 ((rd_T44 t315 x7_1).f0)).length : Int) != (t318.length : Int)) = true := bne_iff_ne.mpr c30
        have c30b2 : ((rd_L11 t318 ((rd_T44 t315 x7_1).f0)).length == t318.length) = false := by first | simpa using c30 | (simp at c30 ⊢; omega)
        obtain rfl := Option.some.inj H
        have p321 : 0 ≤ (x7_1 : Int) := of_decide_eq_true (by with_reducible assumption)
        have q321 : x7_1 < (t315.length : Int) := of_decide_eq_true (by with_reducible assumption)
        obtain ⟨ad321, A321_1, c321_1, A321_2, c321_2, e321, hx321_0, hx321_1, hx321_2, hl321_1, hi321_1, hl321_2, hi321_2⟩ := at_T44 (S_reads' HO_5.out).2.2 x7_1 p321 q321
        cases e321
        obtain ⟨ce321, hce321, hMe321, hcc321⟩ := S_get HO_5.out z44 x7_1 p321 (by first | exact q321 | exact of_decide_eq_true (by with_reducible assumption) | (have e_ := (S_reads' HO_5.out).1; omega))
        obtain ⟨ve321_1, ve321_2, rfl, ge321_1, ge321_2⟩ := k44_openM hMe321
        have hv321_1 := hcc321 1 _ rfl
        rw [add_field _ _ 1 (by omega)] at hv321_1
        replace hv321_1 := Option.some.inj (hv321_1.symm.trans hx321_1)
        rw [hv321_1] at ge321_1
        have HL321_1 := Aside0.mk (show Kd.R (Kd.int .i64) 3 _ _ _ _ ((rd_T44 t315 x7_1).f1) from ge321_1)
        clear hv321_1 ge321_1
        have hv321_2 := hcc321 2 _ rfl
        rw [add_field _ _ 2 (by omega)] at hv321_2
        replace hv321_2 := Option.some.inj (hv321_2.symm.trans hx321_2)
        rw [hv321_2] at ge321_2
        have HL321_2 := Aside0.mk (show Kd.R (Kd.int .i64) 3 _ _ _ _ ((rd_T44 t315 x7_1).f2) from ge321_2)
        clear hv321_2 ge321_2
        clear hcc321 hce321
        have HR321_1 := Aside0.mk hi321_1
        have HC321_1 := Aside0.mk hl321_1
        clear hi321_1 hl321_1
        have HR321_2 := Aside0.mk hi321_2
        have HC321_2 := Aside0.mk hl321_2
        clear hi321_2 hl321_2
        replace p321 := eq_true p321
        replace q321 := eq_true q321
        have HR322_1 := HR321_1
        have p323 : 0 ≤ (x8_2 : Int) := of_decide_eq_true (by with_reducible assumption)
        have q323 : x8_2 < (((rd_T44 t315 x7_1).f1).length : Int) := of_decide_eq_true (by with_reducible assumption)
        obtain ⟨ad323, e323, hx323_0⟩ := Kd.at_int (by repeat with_reducible first | exact HR322_1.out | refine C_alloc ?_ _ | refine C_drewN ?_ _ | refine C_drew ?_) x8_2 p323 q323
        cases e323
        replace p323 := eq_true p323
        replace q323 := eq_true q323
        obtain ⟨Ao37, co37, eo37⟩ := Kd.S_slice HO_6.out
        subst eo37
        have p327 : 0 ≤ (((rd_T44 t315 x7_1).f0) : Int) := of_decide_eq_true (by with_reducible assumption)
        have q327 : ((rd_T44 t315 x7_1).f0) < (t318.length : Int) := of_decide_eq_true (by with_reducible assumption)
        obtain ⟨ad327, A327_0, c327_0, e327, hx327_0, hl327_0, hi327_0⟩ := at_L11 (S_reads' HO_6.out).2.2 ((rd_T44 t315 x7_1).f0) p327 q327
        cases e327
        obtain ⟨ce327, hce327, hMe327, hcc327⟩ := S_get HO_6.out [] ((rd_T44 t315 x7_1).f0) p327 (by first | exact q327 | exact of_decide_eq_true (by with_reducible assumption) | (have e_ := (S_reads' HO_6.out).1; omega))
        obtain ⟨ve327_0, rfl, ge327_0⟩ := hMe327
        have hv327_0 := hcc327 0 _ rfl
        rw [Nat.add_zero, show ((Kd.slice 4 Kd.bool)).sz = 1 from rfl, Nat.mul_one] at hv327_0
        replace hv327_0 := Option.some.inj (hv327_0.symm.trans hx327_0)
        rw [hv327_0] at ge327_0
        have HL327_0 := Aside0.mk (show Kd.R Kd.bool 4 _ _ _ _ (rd_L11 t318 ((rd_T44 t315 x7_1).f0)) from ge327_0)
        clear hv327_0 ge327_0
        clear hcc327 hce327
        have HR327_0 := Aside0.mk hi327_0
        have HC327_0 := Aside0.mk hl327_0
        clear hi327_0 hl327_0
        replace p327 := eq_true p327
        replace q327 := eq_true q327
        go_wp2
        go_ret
        exact ⟨by first | rfl | (simp [errW_none, errW_some] <;> rfl) | (simp [*, errW_none, errW_some] <;> rfl), by repeat (first | (with_reducible first | exact HB.out | apply below_alloc | apply pw_below_drewN | apply below_drew1 | refine below_set ?_ GE312.out) | exact HB.out)⟩
      rw [if_neg c19] at H
      have c19b0 : decide (x8_2 < (((rd_T44 t315 x7_1).f1).length : Int)) = false := decide_eq_false c19
      clear c19
      have H' := Aside0.mk H
      clear H
      have p321 : 0 ≤ (x7_1 : Int) := of_decide_eq_true (by with_reducible assumption)
      have q321 : x7_1 < (t315.length : Int) := of_decide_eq_true (by with_reducible assumption)
      obtain ⟨ad321, A321_1, c321_1, A321_2, c321_2, e321, hx321_0, hx321_1, hx321_2, hl321_1, hi321_1, hl321_2, hi321_2⟩ := at_T44 (S_reads' HO_5.out).2.2 x7_1 p321 q321
      cases e321
      obtain ⟨ce321, hce321, hMe321, hcc321⟩ := S_get HO_5.out z44 x7_1 p321 (by first | exact q321 | exact of_decide_eq_true (by with_reducible assumption) | (have e_ := (S_reads' HO_5.out).1; omega))
      obtain ⟨ve321_1, ve321_2, rfl, ge321_1, ge321_2⟩ := k44_openM hMe321
      have hv321_1 := hcc321 1 _ rfl
      rw [add_field _ _ 1 (by omega)] at hv321_1
      replace hv321_1 := Option.some.inj (hv321_1.symm.trans hx321_1)
      rw [hv321_1] at ge321_1
      have HL321_1 := Aside0.mk (show Kd.R (Kd.int .i64) 3 _ _ _ _ ((rd_T44 t315 x7_1).f1) from ge321_1)
      clear hv321_1 ge321_1
      have hv321_2 := hcc321 2 _ rfl
      rw [add_field _ _ 2 (by omega)] at hv321_2
      replace hv321_2 := Option.some.inj (hv321_2.symm.trans hx321_2)
      rw [hv321_2] at ge321_2
      have HL321_2 := Aside0.mk (show Kd.R (Kd.int .i64) 3 _ _ _ _ ((rd_T44 t315 x7_1).f2) from ge321_2)
      clear hv321_2 ge321_2
      clear hcc321 hce321
      have HR321_1 := Aside0.mk hi321_1
      have HC321_1 := Aside0.mk hl321_1
      clear hi321_1 hl321_1
      have HR321_2 := Aside0.mk hi321_2
      have HC321_2 := Aside0.mk hl321_2
      clear hi321_2 hl321_2
      replace p321 := eq_true p321
      replace q321 := eq_true q321
      go_wp2
      go_loopg [10] k2 (fun kq v10 w' => ∃ (x10_3 : Int), v10 = .int .i64 x10_3 ∧ Aside0 (fettlelaw07_LoopsLie.l2 kq t313 t315 t318 x7_1 x10_3 = some r) ∧ Aside0 (kq ≤ k2) ∧ Aside0 (Kd.S k44 44 w' w.heap.size (fun _ => True) (.slice (some ad321) t315.length co16) t315) ∧ Aside0 (Kd.S (Kd.slice 4 Kd.bool) 34 w' w.heap.size (fun _ => True) v319 t318) ∧ Aside0 (w'.heap[gb312]? = some (.cells #[.int .i64 a0_0, .int .i64 a0_1, (.slice A0_2 l0_2.length c0_2), (.slice A0_3 l0_3.length c0_3)] 25 (0, 0))) ∧ Aside0 (Kd.C (Kd.int .i64) w' A321_1 ((rd_T44 t315 x7_1).f1).length ((rd_T44 t315 x7_1).f1)) ∧ Aside0 (Kd.C (Kd.int .i64) w' A321_2 ((rd_T44 t315 x7_1).f2).length ((rd_T44 t315 x7_1).f2)) ∧ Aside0 (Below w.heap.size w w'))
      case atStart => exact ⟨(0), (by first | rfl | (simp; done) | (simp [*]; done)), H', ⟨Nat.le_refl _⟩, ⟨by (with_reducible repeat (first | apply S_alloc | apply S_drewN | apply S_drew)); exact HO_5.out⟩, ⟨by (with_reducible repeat (first | apply S_alloc | apply S_drewN | apply S_drew)); exact HO_6.out⟩, ⟨by (with_reducible repeat (first | refine blk_drewN ?_ _ | refine blk_drew ?_ | refine blk_alloc ?_ _)); exact BK312.out⟩, ⟨by repeat (first | (with_reducible exact HR321_1.out) | (with_reducible refine C_alloc ?_ _) | (with_reducible refine C_drewN ?_ _) | (with_reducible refine C_drew ?_) | exact HR321_1.out)⟩, ⟨by repeat (first | (with_reducible exact HR321_2.out) | (with_reducible refine C_alloc ?_ _) | (with_reducible refine C_drewN ?_ _) | (with_reducible refine C_drew ?_) | exact HR321_2.out)⟩, ⟨by repeat (first | (with_reducible first | exact HB.out | apply below_alloc | apply pw_below_drewN | apply below_drew1 | refine below_set ?_ GE312.out) | exact HB.out)⟩⟩
      clear H'
      try clear c1
      try clear c2
      try clear p2
      try clear c3
      try clear p3
      try clear q3
      try clear hx3
      try clear p6
      try clear c19
      try clear c19b0
      try clear c20
      try clear c28
      try clear c29
      try clear c30
      try clear c30b0
      try clear c30b1
      try clear c30b2
      try clear c31
      try clear c32
      try clear p32
      try clear q32
      try clear hx32
      try clear p33
      try clear q33
      try clear hx33
      try clear c34
      try clear hx321_0
      try clear hx321_1
      try clear hx321_2
      try clear hx322_0
      try clear hx322_1
      try clear hx322_2
      try clear hx323_0
      try clear hx324_0
      try clear hx324_1
      try clear hx324_2
      try clear hx325_0
      try clear hx325_1
      try clear hx325_2
      try clear hx326_0
      try clear hx326_1
      try clear hx326_2
      try clear hx327_0
      try clear hx328_0
      try clear hx328_1
      try clear hx328_2
      try clear hx329_0
      try clear hx330_0
      try clear p321
      try clear p322
      try clear p323
      try clear p324
      try clear p325
      try clear p326
      try clear p327
      try clear p328
      try clear p329
      try clear p330
      try clear q321
      try clear q322
      try clear q323
      try clear q324
      try clear q325
      try clear q326
      try clear q327
      try clear q328
      try clear q329
      try clear q330
      obtain ⟨x10_3, rfl, HA, HK3, HO_5, HO_6, BK312, HR321_1, HR321_2, HB⟩ := hrel
      rcases gk with _ | k3
      · exact absurd HA.out (by simp [fettlelaw07_LoopsLie.l2])
      have H := HA.out
      clear HA
      simp only [fettlelaw07_LoopsLie.l2] at H
      by_cases c38 : x10_3 < x7_1
      · rw [if_pos c38] at H
        have c38b0 : decide (x10_3 < x7_1) = true := decide_eq_true c38
        clear c38
        have H' := Aside0.mk H
        clear H
        go_wp2
        go_loopg [11, 12] k3 (fun kq v11 v12 w' => ∃ (x11_4 : Bool) (x12_4 : Int), v11 = .bool x11_4 ∧ v12 = .int .i64 x12_4 ∧ Aside0 (fettlelaw07_LoopsLie.l3 kq t313 t315 t318 x7_1 x10_3 x11_4 x12_4 = some r) ∧ Aside0 (kq ≤ k3) ∧ Aside0 (Kd.S k44 44 w' w.heap.size (fun _ => True) (.slice (some ad321) t315.length co16) t315) ∧ Aside0 (Kd.S (Kd.slice 4 Kd.bool) 34 w' w.heap.size (fun _ => True) v319 t318) ∧ Aside0 (w'.heap[gb312]? = some (.cells #[.int .i64 a0_0, .int .i64 a0_1, (.slice A0_2 l0_2.length c0_2), (.slice A0_3 l0_3.length c0_3)] 25 (0, 0))) ∧ Aside0 (Kd.C (Kd.int .i64) w' A321_1 ((rd_T44 t315 x7_1).f1).length ((rd_T44 t315 x7_1).f1)) ∧ Aside0 (Kd.C (Kd.int .i64) w' A321_2 ((rd_T44 t315 x7_1).f2).length ((rd_T44 t315 x7_1).f2)) ∧ Aside0 (Below w.heap.size w w'))
        case atStart => exact ⟨(false), (0), (by first | rfl | (simp; done) | (simp [*]; done)), (by first | rfl | (simp; done) | (simp [*]; done)), H', ⟨Nat.le_refl _⟩, ⟨by (with_reducible repeat (first | apply S_alloc | apply S_drewN | apply S_drew)); exact HO_5.out⟩, ⟨by (with_reducible repeat (first | apply S_alloc | apply S_drewN | apply S_drew)); exact HO_6.out⟩, ⟨by (with_reducible repeat (first | refine blk_drewN ?_ _ | refine blk_drew ?_ | refine blk_alloc ?_ _)); exact BK312.out⟩, ⟨by repeat (first | (with_reducible exact HR321_1.out) | (with_reducible refine C_alloc ?_ _) | (with_reducible refine C_drewN ?_ _) | (with_reducible refine C_drew ?_) | exact HR321_1.out)⟩, ⟨by repeat (first | (with_reducible exact HR321_2.out) | (with_reducible refine C_alloc ?_ _) | (with_reducible refine C_drewN ?_ _) | (with_reducible refine C_drew ?_) | exact HR321_2.out)⟩, ⟨by repeat (first | (with_reducible first | exact HB.out | apply below_alloc | apply pw_below_drewN | apply below_drew1 | refine below_set ?_ GE312.out) | exact HB.out)⟩⟩
        clear H'
        try clear c1
        try clear c2
        try clear p2
        try clear c3
        try clear p3
        try clear q3
        try clear hx3
        try clear p6
        try clear c19
        try clear c19b0
        try clear c20
        try clear c28
        try clear c29
        try clear c30
        try clear c30b0
        try clear c30b1
        try clear c30b2
        try clear c31
        try clear c32
        try clear p32
        try clear q32
        try clear hx32
        try clear p33
        try clear q33
        try clear hx33
        try clear c34
        try clear c38
        try clear c38b0
        try clear hx321_0
        try clear hx321_1
        try clear hx321_2
        try clear hx322_0
        try clear hx322_1
        try clear hx322_2
        try clear hx323_0
        try clear hx324_0
        try clear hx324_1
        try clear hx324_2
        try clear hx325_0
        try clear hx325_1
        try clear hx325_2
        try clear hx326_0
        try clear hx326_1
        try clear hx326_2
        try clear hx327_0
        try clear hx328_0
        try clear hx328_1
        try clear hx328_2
        try clear hx329_0
        try clear hx330_0
        try clear p2
        try clear p3
        try clear p32
        try clear p321
        try clear p322
        try clear p323
        try clear p324
        try clear p325
        try clear p326
        try clear p327
        try clear p328
        try clear p329
        try clear p33
        try clear p330
        try clear p6
        try clear q3
        try clear q32
        try clear q321
        try clear q322
        try clear q323
        try clear q324
        try clear q325
        try clear q326
        try clear q327
        try clear q328
        try clear q329
        try clear q33
        try clear q330
        obtain ⟨x11_4, x12_4, rfl, rfl, HA, HK4, HO_5, HO_6, BK312, HR321_1, HR321_2, HB⟩ := hrel
        rcases gk with _ | k4
        · exact absurd HA.out (by simp [fettlelaw07_LoopsLie.l3])
        have H := HA.out
        clear HA
        simp only [fettlelaw07_LoopsLie.l3] at H
        by_cases c39 : 0 ≤ x7_1
        rotate_left
        · rw [if_neg c39] at H
          exact absurd H (by simp)
        rw [if_pos c39] at H
        have c39b0 : decide (0 ≤ x7_1) = true := decide_eq_true c39
        clear c39
        by_cases c40 : x7_1 < (t315.length : Int)
        rotate_left
        · rw [if_neg c40] at H
          exact absurd H (by simp)
        rw [if_pos c40] at H
        have c40b0 : decide (x7_1 < (t315.length : Int)) = true := decide_eq_true c40
        clear c40
        by_cases c41 : x12_4 < (((rd_T44 t315 x7_1).f1).length : Int)
        · rw [if_pos c41] at H
          have c41b0 : decide (x12_4 < (((rd_T44 t315 x7_1).f1).length : Int)) = true := decide_eq_true c41
          clear c41
          by_cases c42 : 0 ≤ x10_3
          rotate_left
          · rw [if_neg c42] at H
            exact absurd H (by simp)
          rw [if_pos c42] at H
          have c42b0 : decide (0 ≤ x10_3) = true := decide_eq_true c42
          clear c42
          by_cases c43 : x10_3 < (t315.length : Int)
          rotate_left
          · rw [if_neg c43] at H
            exact absurd H (by simp)
          rw [if_pos c43] at H
          have c43b0 : decide (x10_3 < (t315.length : Int)) = true := decide_eq_true c43
          clear c43
          by_cases c44 : 0 ≤ x12_4
          rotate_left
          · rw [if_neg c44] at H
            exact absurd H (by simp)
          rw [if_pos c44] at H
          have c44b0 : decide (0 ≤ x12_4) = true := decide_eq_true c44
          clear c44
          replace H := Option.bind_eq_some_iff.mp H
          obtain ⟨t335, A450, H⟩ := H
          replace H : (if x11_4 = true then (fettlelaw07_LoopsLie.l3 k4 t313 t315 t318 x7_1 x10_3 true (wrap64 (x12_4 + 1))) else (fettlelaw07_LoopsLie.l3 k4 t313 t315 t318 x7_1 x10_3 t335 (wrap64 (x12_4 + 1)))) = some r := H
          have A45 := Aside0.mk A450
          clear A450
          by_cases c46 : x11_4 = true
          · subst c46
            have H1 : (fettlelaw07_LoopsLie.l3 k4 t313 t315 t318 x7_1 x10_3 true (wrap64 (x12_4 + 1))) = some r := by rw [if_pos rfl] at H; exact H
            clear H
            have H := H1
            clear H1
            have H' := Aside0.mk H
            clear H
            have p331 : 0 ≤ (x7_1 : Int) := of_decide_eq_true (by with_reducible assumption)
            have q331 : x7_1 < (t315.length : Int) := of_decide_eq_true (by with_reducible assumption)
            obtain ⟨ad331, A331_1, c331_1, A331_2, c331_2, e331, hx331_0, hx331_1, hx331_2, hl331_1, hi331_1, hl331_2, hi331_2⟩ := at_T44 (S_reads' HO_5.out).2.2 x7_1 p331 q331
            obtain rfl : ad321 = ad331 := (by injection e331)
            obtain ⟨ce331, hce331, hMe331, hcc331⟩ := S_get HO_5.out z44 x7_1 p331 (by first | exact q331 | exact of_decide_eq_true (by with_reducible assumption) | (have e_ := (S_reads' HO_5.out).1; omega))
            obtain ⟨ve331_1, ve331_2, rfl, ge331_1, ge331_2⟩ := k44_openM hMe331
            have hv331_1 := hcc331 1 _ rfl
            rw [add_field _ _ 1 (by omega)] at hv331_1
            replace hv331_1 := Option.some.inj (hv331_1.symm.trans hx331_1)
            rw [hv331_1] at ge331_1
            have HL331_1 := Aside0.mk (show Kd.R (Kd.int .i64) 3 _ _ _ _ ((rd_T44 t315 x7_1).f1) from ge331_1)
            clear hv331_1 ge331_1
            have hv331_2 := hcc331 2 _ rfl
            rw [add_field _ _ 2 (by omega)] at hv331_2
            replace hv331_2 := Option.some.inj (hv331_2.symm.trans hx331_2)
            rw [hv331_2] at ge331_2
            have HL331_2 := Aside0.mk (show Kd.R (Kd.int .i64) 3 _ _ _ _ ((rd_T44 t315 x7_1).f2) from ge331_2)
            clear hv331_2 ge331_2
            clear hcc331 hce331
            have HR331_1 := Aside0.mk hi331_1
            have HC331_1 := Aside0.mk hl331_1
            clear hi331_1 hl331_1
            have HR331_2 := Aside0.mk hi331_2
            have HC331_2 := Aside0.mk hl331_2
            clear hi331_2 hl331_2
            replace p331 := eq_true p331
            replace q331 := eq_true q331
            try go_wp2
            have n0_ := Aside0.mk (S_drew HO_5.out)
            have n1_ := Aside0.mk (S_drew HO_6.out)
            have n2_ := Aside0.mk (R_drew HL331_1.out)
            have n3_ := Aside0.mk (R_drew HL331_2.out)
            have n4_ := Aside0.mk (blk_drew BK312.out)
            have n5_ := Aside0.mk (C_drew HR321_1.out)
            have n6_ := Aside0.mk (C_drew HR321_2.out)
            have n7_ := Aside0.mk (C_drew HR331_1.out)
            have n8_ := Aside0.mk (C_drew HR331_2.out)
            have n9_ := Aside0.mk (below_drew1 HB.out)
            clear HO_5
            clear HO_6
            clear HL331_1
            clear HL331_2
            clear BK312
            clear HR321_1
            clear HR321_2
            clear HR331_1
            clear HR331_2
            clear HB
            have HO_5 := n0_
            have HO_6 := n1_
            have HL331_1 := n2_
            have HL331_2 := n3_
            have BK312 := n4_
            have HR321_1 := n5_
            have HR321_2 := n6_
            have HR331_1 := n7_
            have HR331_2 := n8_
            have HB := n9_
            clear n0_ n1_ n2_ n3_ n4_ n5_ n6_ n7_ n8_ n9_
            have p332 : 0 ≤ (x10_3 : Int) := of_decide_eq_true (by with_reducible assumption)
            have q332 : x10_3 < (t315.length : Int) := of_decide_eq_true (by with_reducible assumption)
            obtain ⟨ad332, A332_1, c332_1, A332_2, c332_2, e332, hx332_0, hx332_1, hx332_2, hl332_1, hi332_1, hl332_2, hi332_2⟩ := at_T44 (S_reads' HO_5.out).2.2 x10_3 p332 q332
            obtain rfl : ad321 = ad332 := (by injection e332)
            obtain ⟨ce332, hce332, hMe332, hcc332⟩ := S_get HO_5.out z44 x10_3 p332 (by first | exact q332 | exact of_decide_eq_true (by with_reducible assumption) | (have e_ := (S_reads' HO_5.out).1; omega))
            obtain ⟨ve332_1, ve332_2, rfl, ge332_1, ge332_2⟩ := k44_openM hMe332
            have hv332_1 := hcc332 1 _ rfl
            rw [add_field _ _ 1 (by omega)] at hv332_1
            replace hv332_1 := Option.some.inj (hv332_1.symm.trans hx332_1)
            rw [hv332_1] at ge332_1
            have HL332_1 := Aside0.mk (show Kd.R (Kd.int .i64) 3 _ _ _ _ ((rd_T44 t315 x10_3).f1) from ge332_1)
            clear hv332_1 ge332_1
            have hv332_2 := hcc332 2 _ rfl
            rw [add_field _ _ 2 (by omega)] at hv332_2
            replace hv332_2 := Option.some.inj (hv332_2.symm.trans hx332_2)
            rw [hv332_2] at ge332_2
            have HL332_2 := Aside0.mk (show Kd.R (Kd.int .i64) 3 _ _ _ _ ((rd_T44 t315 x10_3).f2) from ge332_2)
            clear hv332_2 ge332_2
            clear hcc332 hce332
            have HR332_1 := Aside0.mk hi332_1
            have HC332_1 := Aside0.mk hl332_1
            clear hi332_1 hl332_1
            have HR332_2 := Aside0.mk hi332_2
            have HC332_2 := Aside0.mk hl332_2
            clear hi332_2 hl332_2
            replace p332 := eq_true p332
            replace q332 := eq_true q332
            have p333 : 0 ≤ (x7_1 : Int) := of_decide_eq_true (by with_reducible assumption)
            have q333 : x7_1 < (t315.length : Int) := of_decide_eq_true (by with_reducible assumption)
            obtain ⟨ad333, A333_1, c333_1, A333_2, c333_2, e333, hx333_0, hx333_1, hx333_2, hl333_1, hi333_1, hl333_2, hi333_2⟩ := at_T44 (S_reads' HO_5.out).2.2 x7_1 p333 q333
            obtain rfl : ad321 = ad333 := (by injection e333)
            obtain ⟨ce333, hce333, hMe333, hcc333⟩ := S_get HO_5.out z44 x7_1 p333 (by first | exact q333 | exact of_decide_eq_true (by with_reducible assumption) | (have e_ := (S_reads' HO_5.out).1; omega))
            obtain ⟨ve333_1, ve333_2, rfl, ge333_1, ge333_2⟩ := k44_openM hMe333
            have hv333_1 := hcc333 1 _ rfl
            rw [add_field _ _ 1 (by omega)] at hv333_1
            replace hv333_1 := Option.some.inj (hv333_1.symm.trans hx333_1)
            rw [hv333_1] at ge333_1
            have HL333_1 := Aside0.mk (show Kd.R (Kd.int .i64) 3 _ _ _ _ ((rd_T44 t315 x7_1).f1) from ge333_1)
            clear hv333_1 ge333_1
            have hv333_2 := hcc333 2 _ rfl
            rw [add_field _ _ 2 (by omega)] at hv333_2
            replace hv333_2 := Option.some.inj (hv333_2.symm.trans hx333_2)
            rw [hv333_2] at ge333_2
            have HL333_2 := Aside0.mk (show Kd.R (Kd.int .i64) 3 _ _ _ _ ((rd_T44 t315 x7_1).f2) from ge333_2)
            clear hv333_2 ge333_2
            clear hcc333 hce333
            have HR333_1 := Aside0.mk hi333_1
            have HC333_1 := Aside0.mk hl333_1
            clear hi333_1 hl333_1
            have HR333_2 := Aside0.mk hi333_2
            have HC333_2 := Aside0.mk hl333_2
            clear hi333_2 hl333_2
            replace p333 := eq_true p333
            replace q333 := eq_true q333
            have p334 : 0 ≤ (x12_4 : Int) := of_decide_eq_true (by with_reducible assumption)
            have q334 : x12_4 < (((rd_T44 t315 x7_1).f1).length : Int) := of_decide_eq_true (by with_reducible assumption)
            obtain ⟨ad334, e334, hx334_0⟩ := Kd.at_int (by repeat with_reducible first | exact HR333_1.out | refine C_alloc ?_ _ | refine C_drewN ?_ _ | refine C_drew ?_) x12_4 p334 q334
            cases e334
            replace p334 := eq_true p334
            replace q334 := eq_true q334
            refine start_ (n := 15) (S := fun w' => w'.cell? (ad321.add ((x10_3).toNat * 3)) = some (.int .i64 ((rd_T44 t315 x10_3).f0)) ∧ w'.cell? ⟨(ad321.add ((x10_3).toNat * 3)).block, (ad321.add ((x10_3).toNat * 3)).off + 1, none⟩ = some (.slice A332_1 ((rd_T44 t315 x10_3).f1).length c332_1) ∧ w'.cell? ⟨(ad321.add ((x10_3).toNat * 3)).block, (ad321.add ((x10_3).toNat * 3)).off + 2, none⟩ = some (.slice A332_2 ((rd_T44 t315 x10_3).f2).length c332_2) ∧ w'.cell? (ad321.add ((x7_1).toNat * 3)) = some (.int .i64 ((rd_T44 t315 x7_1).f0)) ∧ w'.cell? ⟨(ad321.add ((x7_1).toNat * 3)).block, (ad321.add ((x7_1).toNat * 3)).off + 1, none⟩ = some (.slice (some ad334) ((rd_T44 t315 x7_1).f1).length c333_1) ∧ w'.cell? ⟨(ad321.add ((x7_1).toNat * 3)).block, (ad321.add ((x7_1).toNat * 3)).off + 2, none⟩ = some (.slice A333_2 ((rd_T44 t315 x7_1).f2).length c333_2) ∧ w'.cell? (ad334.add (x12_4).toNat) = some (.int .i64 (rd ((rd_T44 t315 x7_1).f1) x12_4))) (ds := []) #[false, false, false, false, false, false, false, false, false, false, false, false, false, false, false] (by kernel_rfl) rfl rfl ⟨hx332_0, hx332_1, hx332_2, hx333_0, hx333_1, hx333_2, hx334_0⟩ (fun hHeld => ?_); refine with_tabW fettlelaw07_LoopsLie.tab23 fettlelaw07_LoopsLie.bits23 (fun HT_ HW_ => ?_)
            generalize wr.drew = w47 at HO_5 HO_6 HL331_1 HL331_2 BK312 HR321_1 HR321_2 HR331_1 HR331_2 HB HL332_1 HL332_2 HL333_1 HL333_2 HR332_1 HR332_2 HR333_1 HR333_2 hx332_0 hx332_1 hx332_2 hx333_0 hx333_1 hx333_2 hx334_0 hHeld ⊢
            refine pu 0 117 (bt 15 1) HT_.out ?_
            refine pu 1 118 (bt 15 3) HT_.out ?_
            refine pu 2 119 (bt 15 7) HT_.out ?_
            refine pu 3 120 (bt 15 15) HT_.out ?_
            refine pu 5 122 (bt 15 47) HT_.out ?_
            refine pu 6 123 (bt 15 111) HT_.out ?_
            refine pu 7 124 (bt 15 239) HT_.out ?_
            refine pu 8 125 (bt 15 495) HT_.out ?_
            refine pu 10 127 (bt 15 1519) HT_.out ?_
            refine tk 4 121 (bt 15 1535) HT_.out HW_.out hHeld rfl rfl (by rintro w' ⟨s0, s1, s2, s3, s4, s5, s6⟩; go_simp; with_reducible rfl) ?_
            refine tk 9 126 (bt 15 2047) HT_.out HW_.out hHeld rfl rfl (by rintro w' ⟨s0, s1, s2, s3, s4, s5, s6⟩; go_simp; with_reducible rfl) ?_
            refine pu 11 128 (bt 15 4095) HT_.out ?_
            refine tk 12 129 (bt 15 8191) HT_.out HW_.out hHeld rfl rfl (by rintro w' ⟨s0, s1, s2, s3, s4, s5, s6⟩; go_simp; with_reducible rfl) ?_
            refine one_ (i := 13) (N := some 130) (bt 15 16383) rfl rfl (one_of HT_.out (by kernel_rfl)) (by decide) (fun K hK => ?_)
            refine goes_ Try.func28 (by kernel_rfl) rfl #[.slice A332_1 ((rd_T44 t315 x10_3).f1).length c332_1, .int .i64 (rd ((rd_T44 t315 x7_1).f1) x12_4)] (by rfl) rfl rfl (by (try simp only [List.map_toArray, List.map_cons, List.map_nil]); first | done | rfl) ?_
            with_reducible refine (fettlelaw07_has.calls k4 _ _ ((rd_T44 t315 x10_3).f1) (rd ((rd_T44 t315 x7_1).f1) x12_4) t335 _ ?side1 ?side2 A45.out).mono ?_
            (case side1 => repeat (first | exact (by repeat with_reducible first | exact HR332_1.out | refine C_alloc ?_ _ | refine C_drewN ?_ _ | refine C_drew ?_) | (with_reducible refine C_alloc ?_ _) | (with_reducible refine C_drewN ?_ _) | (with_reducible refine C_drew ?_)))
            (case side2 => exact HC332_1.out)
            rintro e w' ⟨rfl, ⟨nd, rfl⟩⟩
            refine ⟨_, rfl, ?_⟩
            refine hK.out _ _ ⟨hHeld.1, hHeld.2.1, hHeld.2.2.1, hHeld.2.2.2.1, hHeld.2.2.2.2.1, hHeld.2.2.2.2.2.1, hHeld.2.2.2.2.2.2⟩ (fun hHeld => ?_)
            clear hK K
            refine norm_ (a' := ?_) ?_ ?_
            rotate_left
            · show Act.put _ (some 130) _ = _
              simp only [Act.put, List.setIfInBounds_toArray, List.set_cons_zero, List.set_cons_succ, i64_w, i32_w]
              rfl
            refine pu 14 13 (bt 15 32767) HT_.out ?_
            refine done_ (done_of HT_.out (by kernel_rfl)) ?_
            try go_wp2
            go_roundg k4
            case measure => have := HK1.out; have := HK2.out; have := HK3.out; have := HK4.out; omega
            case rel => exact ⟨(true), (wrap64 (x12_4 + 1)), (by first | rfl | (simp; done) | (simp [*]; done)), (by first | rfl | (simp; done) | (simp [*]; done)), H', ⟨by have := HK1.out; have := HK2.out; have := HK3.out; have := HK4.out; omega⟩, ⟨by (with_reducible repeat (first | apply S_alloc | apply S_drewN | apply S_drew)); exact HO_5.out⟩, ⟨by (with_reducible repeat (first | apply S_alloc | apply S_drewN | apply S_drew)); exact HO_6.out⟩, ⟨by (with_reducible repeat (first | refine blk_drewN ?_ _ | refine blk_drew ?_ | refine blk_alloc ?_ _)); exact BK312.out⟩, ⟨by repeat (first | (with_reducible exact HR321_1.out) | (with_reducible refine C_alloc ?_ _) | (with_reducible refine C_drewN ?_ _) | (with_reducible refine C_drew ?_) | exact HR321_1.out)⟩, ⟨by repeat (first | (with_reducible exact HR321_2.out) | (with_reducible refine C_alloc ?_ _) | (with_reducible refine C_drewN ?_ _) | (with_reducible refine C_drew ?_) | exact HR321_2.out)⟩, ⟨by repeat (first | (with_reducible first | exact HB.out | apply below_alloc | apply pw_below_drewN | apply below_drew1 | refine below_set ?_ GE312.out) | exact HB.out)⟩⟩
          replace c46 := Bool.eq_false_iff.mpr c46
          subst c46
          have H1 : (fettlelaw07_LoopsLie.l3 k4 t313 t315 t318 x7_1 x10_3 t335 (wrap64 (x12_4 + 1))) = some r := by rw [if_neg (show ¬ (false = true) by decide)] at H; exact H
          clear H
          have H := H1
          clear H1
          have H' := Aside0.mk H
          clear H
          have p331 : 0 ≤ (x7_1 : Int) := of_decide_eq_true (by with_reducible assumption)
          have q331 : x7_1 < (t315.length : Int) := of_decide_eq_true (by with_reducible assumption)
          obtain ⟨ad331, A331_1, c331_1, A331_2, c331_2, e331, hx331_0, hx331_1, hx331_2, hl331_1, hi331_1, hl331_2, hi331_2⟩ := at_T44 (S_reads' HO_5.out).2.2 x7_1 p331 q331
          obtain rfl : ad321 = ad331 := (by injection e331)
          obtain ⟨ce331, hce331, hMe331, hcc331⟩ := S_get HO_5.out z44 x7_1 p331 (by first | exact q331 | exact of_decide_eq_true (by with_reducible assumption) | (have e_ := (S_reads' HO_5.out).1; omega))
          obtain ⟨ve331_1, ve331_2, rfl, ge331_1, ge331_2⟩ := k44_openM hMe331
          have hv331_1 := hcc331 1 _ rfl
          rw [add_field _ _ 1 (by omega)] at hv331_1
          replace hv331_1 := Option.some.inj (hv331_1.symm.trans hx331_1)
          rw [hv331_1] at ge331_1
          have HL331_1 := Aside0.mk (show Kd.R (Kd.int .i64) 3 _ _ _ _ ((rd_T44 t315 x7_1).f1) from ge331_1)
          clear hv331_1 ge331_1
          have hv331_2 := hcc331 2 _ rfl
          rw [add_field _ _ 2 (by omega)] at hv331_2
          replace hv331_2 := Option.some.inj (hv331_2.symm.trans hx331_2)
          rw [hv331_2] at ge331_2
          have HL331_2 := Aside0.mk (show Kd.R (Kd.int .i64) 3 _ _ _ _ ((rd_T44 t315 x7_1).f2) from ge331_2)
          clear hv331_2 ge331_2
          clear hcc331 hce331
          have HR331_1 := Aside0.mk hi331_1
          have HC331_1 := Aside0.mk hl331_1
          clear hi331_1 hl331_1
          have HR331_2 := Aside0.mk hi331_2
          have HC331_2 := Aside0.mk hl331_2
          clear hi331_2 hl331_2
          replace p331 := eq_true p331
          replace q331 := eq_true q331
          try go_wp2
          have n0_ := Aside0.mk (S_drew HO_5.out)
          have n1_ := Aside0.mk (S_drew HO_6.out)
          have n2_ := Aside0.mk (R_drew HL331_1.out)
          have n3_ := Aside0.mk (R_drew HL331_2.out)
          have n4_ := Aside0.mk (blk_drew BK312.out)
          have n5_ := Aside0.mk (C_drew HR321_1.out)
          have n6_ := Aside0.mk (C_drew HR321_2.out)
          have n7_ := Aside0.mk (C_drew HR331_1.out)
          have n8_ := Aside0.mk (C_drew HR331_2.out)
          have n9_ := Aside0.mk (below_drew1 HB.out)
          clear HO_5
          clear HO_6
          clear HL331_1
          clear HL331_2
          clear BK312
          clear HR321_1
          clear HR321_2
          clear HR331_1
          clear HR331_2
          clear HB
          have HO_5 := n0_
          have HO_6 := n1_
          have HL331_1 := n2_
          have HL331_2 := n3_
          have BK312 := n4_
          have HR321_1 := n5_
          have HR321_2 := n6_
          have HR331_1 := n7_
          have HR331_2 := n8_
          have HB := n9_
          clear n0_ n1_ n2_ n3_ n4_ n5_ n6_ n7_ n8_ n9_
          have p332 : 0 ≤ (x10_3 : Int) := of_decide_eq_true (by with_reducible assumption)
          have q332 : x10_3 < (t315.length : Int) := of_decide_eq_true (by with_reducible assumption)
          obtain ⟨ad332, A332_1, c332_1, A332_2, c332_2, e332, hx332_0, hx332_1, hx332_2, hl332_1, hi332_1, hl332_2, hi332_2⟩ := at_T44 (S_reads' HO_5.out).2.2 x10_3 p332 q332
          obtain rfl : ad321 = ad332 := (by injection e332)
          obtain ⟨ce332, hce332, hMe332, hcc332⟩ := S_get HO_5.out z44 x10_3 p332 (by first | exact q332 | exact of_decide_eq_true (by with_reducible assumption) | (have e_ := (S_reads' HO_5.out).1; omega))
          obtain ⟨ve332_1, ve332_2, rfl, ge332_1, ge332_2⟩ := k44_openM hMe332
          have hv332_1 := hcc332 1 _ rfl
          rw [add_field _ _ 1 (by omega)] at hv332_1
          replace hv332_1 := Option.some.inj (hv332_1.symm.trans hx332_1)
          rw [hv332_1] at ge332_1
          have HL332_1 := Aside0.mk (show Kd.R (Kd.int .i64) 3 _ _ _ _ ((rd_T44 t315 x10_3).f1) from ge332_1)
          clear hv332_1 ge332_1
          have hv332_2 := hcc332 2 _ rfl
          rw [add_field _ _ 2 (by omega)] at hv332_2
          replace hv332_2 := Option.some.inj (hv332_2.symm.trans hx332_2)
          rw [hv332_2] at ge332_2
          have HL332_2 := Aside0.mk (show Kd.R (Kd.int .i64) 3 _ _ _ _ ((rd_T44 t315 x10_3).f2) from ge332_2)
          clear hv332_2 ge332_2
          clear hcc332 hce332
          have HR332_1 := Aside0.mk hi332_1
          have HC332_1 := Aside0.mk hl332_1
          clear hi332_1 hl332_1
          have HR332_2 := Aside0.mk hi332_2
          have HC332_2 := Aside0.mk hl332_2
          clear hi332_2 hl332_2
          replace p332 := eq_true p332
          replace q332 := eq_true q332
          have p333 : 0 ≤ (x7_1 : Int) := of_decide_eq_true (by with_reducible assumption)
          have q333 : x7_1 < (t315.length : Int) := of_decide_eq_true (by with_reducible assumption)
          obtain ⟨ad333, A333_1, c333_1, A333_2, c333_2, e333, hx333_0, hx333_1, hx333_2, hl333_1, hi333_1, hl333_2, hi333_2⟩ := at_T44 (S_reads' HO_5.out).2.2 x7_1 p333 q333
          obtain rfl : ad321 = ad333 := (by injection e333)
          obtain ⟨ce333, hce333, hMe333, hcc333⟩ := S_get HO_5.out z44 x7_1 p333 (by first | exact q333 | exact of_decide_eq_true (by with_reducible assumption) | (have e_ := (S_reads' HO_5.out).1; omega))
          obtain ⟨ve333_1, ve333_2, rfl, ge333_1, ge333_2⟩ := k44_openM hMe333
          have hv333_1 := hcc333 1 _ rfl
          rw [add_field _ _ 1 (by omega)] at hv333_1
          replace hv333_1 := Option.some.inj (hv333_1.symm.trans hx333_1)
          rw [hv333_1] at ge333_1
          have HL333_1 := Aside0.mk (show Kd.R (Kd.int .i64) 3 _ _ _ _ ((rd_T44 t315 x7_1).f1) from ge333_1)
          clear hv333_1 ge333_1
          have hv333_2 := hcc333 2 _ rfl
          rw [add_field _ _ 2 (by omega)] at hv333_2
          replace hv333_2 := Option.some.inj (hv333_2.symm.trans hx333_2)
          rw [hv333_2] at ge333_2
          have HL333_2 := Aside0.mk (show Kd.R (Kd.int .i64) 3 _ _ _ _ ((rd_T44 t315 x7_1).f2) from ge333_2)
          clear hv333_2 ge333_2
          clear hcc333 hce333
          have HR333_1 := Aside0.mk hi333_1
          have HC333_1 := Aside0.mk hl333_1
          clear hi333_1 hl333_1
          have HR333_2 := Aside0.mk hi333_2
          have HC333_2 := Aside0.mk hl333_2
          clear hi333_2 hl333_2
          replace p333 := eq_true p333
          replace q333 := eq_true q333
          have p334 : 0 ≤ (x12_4 : Int) := of_decide_eq_true (by with_reducible assumption)
          have q334 : x12_4 < (((rd_T44 t315 x7_1).f1).length : Int) := of_decide_eq_true (by with_reducible assumption)
          obtain ⟨ad334, e334, hx334_0⟩ := Kd.at_int (by repeat with_reducible first | exact HR333_1.out | refine C_alloc ?_ _ | refine C_drewN ?_ _ | refine C_drew ?_) x12_4 p334 q334
          cases e334
          replace p334 := eq_true p334
          replace q334 := eq_true q334
          refine start_ (n := 15) (S := fun w' => w'.cell? (ad321.add ((x10_3).toNat * 3)) = some (.int .i64 ((rd_T44 t315 x10_3).f0)) ∧ w'.cell? ⟨(ad321.add ((x10_3).toNat * 3)).block, (ad321.add ((x10_3).toNat * 3)).off + 1, none⟩ = some (.slice A332_1 ((rd_T44 t315 x10_3).f1).length c332_1) ∧ w'.cell? ⟨(ad321.add ((x10_3).toNat * 3)).block, (ad321.add ((x10_3).toNat * 3)).off + 2, none⟩ = some (.slice A332_2 ((rd_T44 t315 x10_3).f2).length c332_2) ∧ w'.cell? (ad321.add ((x7_1).toNat * 3)) = some (.int .i64 ((rd_T44 t315 x7_1).f0)) ∧ w'.cell? ⟨(ad321.add ((x7_1).toNat * 3)).block, (ad321.add ((x7_1).toNat * 3)).off + 1, none⟩ = some (.slice (some ad334) ((rd_T44 t315 x7_1).f1).length c333_1) ∧ w'.cell? ⟨(ad321.add ((x7_1).toNat * 3)).block, (ad321.add ((x7_1).toNat * 3)).off + 2, none⟩ = some (.slice A333_2 ((rd_T44 t315 x7_1).f2).length c333_2) ∧ w'.cell? (ad334.add (x12_4).toNat) = some (.int .i64 (rd ((rd_T44 t315 x7_1).f1) x12_4))) (ds := []) #[false, false, false, false, false, false, false, false, false, false, false, false, false, false, false] (by kernel_rfl) rfl rfl ⟨hx332_0, hx332_1, hx332_2, hx333_0, hx333_1, hx333_2, hx334_0⟩ (fun hHeld => ?_); refine with_tabW fettlelaw07_LoopsLie.tab23 fettlelaw07_LoopsLie.bits23 (fun HT_ HW_ => ?_)
          generalize wr.drew = w48 at HO_5 HO_6 HL331_1 HL331_2 BK312 HR321_1 HR321_2 HR331_1 HR331_2 HB HL332_1 HL332_2 HL333_1 HL333_2 HR332_1 HR332_2 HR333_1 HR333_2 hx332_0 hx332_1 hx332_2 hx333_0 hx333_1 hx333_2 hx334_0 hHeld ⊢
          refine pu 0 117 (bt 15 1) HT_.out ?_
          refine pu 1 118 (bt 15 3) HT_.out ?_
          refine pu 2 119 (bt 15 7) HT_.out ?_
          refine pu 3 120 (bt 15 15) HT_.out ?_
          refine pu 5 122 (bt 15 47) HT_.out ?_
          refine pu 6 123 (bt 15 111) HT_.out ?_
          refine pu 7 124 (bt 15 239) HT_.out ?_
          refine pu 8 125 (bt 15 495) HT_.out ?_
          refine pu 10 127 (bt 15 1519) HT_.out ?_
          refine tk 4 121 (bt 15 1535) HT_.out HW_.out hHeld rfl rfl (by rintro w' ⟨s0, s1, s2, s3, s4, s5, s6⟩; go_simp; with_reducible rfl) ?_
          refine tk 9 126 (bt 15 2047) HT_.out HW_.out hHeld rfl rfl (by rintro w' ⟨s0, s1, s2, s3, s4, s5, s6⟩; go_simp; with_reducible rfl) ?_
          refine pu 11 128 (bt 15 4095) HT_.out ?_
          refine tk 12 129 (bt 15 8191) HT_.out HW_.out hHeld rfl rfl (by rintro w' ⟨s0, s1, s2, s3, s4, s5, s6⟩; go_simp; with_reducible rfl) ?_
          refine one_ (i := 13) (N := some 130) (bt 15 16383) rfl rfl (one_of HT_.out (by kernel_rfl)) (by decide) (fun K hK => ?_)
          refine goes_ Try.func28 (by kernel_rfl) rfl #[.slice A332_1 ((rd_T44 t315 x10_3).f1).length c332_1, .int .i64 (rd ((rd_T44 t315 x7_1).f1) x12_4)] (by rfl) rfl rfl (by (try simp only [List.map_toArray, List.map_cons, List.map_nil]); first | done | rfl) ?_
          with_reducible refine (fettlelaw07_has.calls k4 _ _ ((rd_T44 t315 x10_3).f1) (rd ((rd_T44 t315 x7_1).f1) x12_4) t335 _ ?side1 ?side2 A45.out).mono ?_
          (case side1 => repeat (first | exact (by repeat with_reducible first | exact HR332_1.out | refine C_alloc ?_ _ | refine C_drewN ?_ _ | refine C_drew ?_) | (with_reducible refine C_alloc ?_ _) | (with_reducible refine C_drewN ?_ _) | (with_reducible refine C_drew ?_)))
          (case side2 => exact HC332_1.out)
          rintro e w' ⟨rfl, ⟨nd, rfl⟩⟩
          refine ⟨_, rfl, ?_⟩
          refine hK.out _ _ ⟨hHeld.1, hHeld.2.1, hHeld.2.2.1, hHeld.2.2.2.1, hHeld.2.2.2.2.1, hHeld.2.2.2.2.2.1, hHeld.2.2.2.2.2.2⟩ (fun hHeld => ?_)
          clear hK K
          refine norm_ (a' := ?_) ?_ ?_
          rotate_left
          · show Act.put _ (some 130) _ = _
            simp only [Act.put, List.setIfInBounds_toArray, List.set_cons_zero, List.set_cons_succ, i64_w, i32_w]
            rfl
          refine pu 14 13 (bt 15 32767) HT_.out ?_
          refine done_ (done_of HT_.out (by kernel_rfl)) ?_
          try go_wp2
          go_roundg k4
          case measure => have := HK1.out; have := HK2.out; have := HK3.out; have := HK4.out; omega
          case rel => exact ⟨(t335), (wrap64 (x12_4 + 1)), (by first | rfl | (simp; done) | (simp [*]; done)), (by first | rfl | (simp; done) | (simp [*]; done)), H', ⟨by have := HK1.out; have := HK2.out; have := HK3.out; have := HK4.out; omega⟩, ⟨by (with_reducible repeat (first | apply S_alloc | apply S_drewN | apply S_drew)); exact HO_5.out⟩, ⟨by (with_reducible repeat (first | apply S_alloc | apply S_drewN | apply S_drew)); exact HO_6.out⟩, ⟨by (with_reducible repeat (first | refine blk_drewN ?_ _ | refine blk_drew ?_ | refine blk_alloc ?_ _)); exact BK312.out⟩, ⟨by repeat (first | (with_reducible exact HR321_1.out) | (with_reducible refine C_alloc ?_ _) | (with_reducible refine C_drewN ?_ _) | (with_reducible refine C_drew ?_) | exact HR321_1.out)⟩, ⟨by repeat (first | (with_reducible exact HR321_2.out) | (with_reducible refine C_alloc ?_ _) | (with_reducible refine C_drewN ?_ _) | (with_reducible refine C_drew ?_) | exact HR321_2.out)⟩, ⟨by repeat (first | (with_reducible first | exact HB.out | apply below_alloc | apply pw_below_drewN | apply below_drew1 | refine below_set ?_ GE312.out) | exact HB.out)⟩⟩
        rw [if_neg c41] at H
        have c41b0 : decide (x12_4 < (((rd_T44 t315 x7_1).f1).length : Int)) = false := decide_eq_false c41
        clear c41
        by_cases c49 : 0 ≤ x10_3
        rotate_left
        · rw [if_neg c49] at H
          exact absurd H (by simp)
        rw [if_pos c49] at H
        have c49b0 : decide (0 ≤ x10_3) = true := decide_eq_true c49
        clear c49
        by_cases c50 : x10_3 < (t315.length : Int)
        rotate_left
        · rw [if_neg c50] at H
          exact absurd H (by simp)
        rw [if_pos c50] at H
        have c50b0 : decide (x10_3 < (t315.length : Int)) = true := decide_eq_true c50
        clear c50
        by_cases c51 : ((rd_T44 t315 x10_3).f0) = ((rd_T44 t315 x7_1).f0)
        · rw [if_pos c51] at H
          have c51b0 : (((rd_T44 t315 x10_3).f0) == ((rd_T44 t315 x7_1).f0)) = true := beq_iff_eq.mpr c51
          have c51b1 : (((rd_T44 t315 x10_3).f0) != ((rd_T44 t315 x7_1).f0)) = false := bne_eq_false_iff_eq.mpr c51
          clear c51
          obtain rfl := Option.some.inj H
          have p331 : 0 ≤ (x7_1 : Int) := of_decide_eq_true (by with_reducible assumption)
          have q331 : x7_1 < (t315.length : Int) := of_decide_eq_true (by with_reducible assumption)
          obtain ⟨ad331, A331_1, c331_1, A331_2, c331_2, e331, hx331_0, hx331_1, hx331_2, hl331_1, hi331_1, hl331_2, hi331_2⟩ := at_T44 (S_reads' HO_5.out).2.2 x7_1 p331 q331
          obtain rfl : ad321 = ad331 := (by injection e331)
          obtain ⟨ce331, hce331, hMe331, hcc331⟩ := S_get HO_5.out z44 x7_1 p331 (by first | exact q331 | exact of_decide_eq_true (by with_reducible assumption) | (have e_ := (S_reads' HO_5.out).1; omega))
          obtain ⟨ve331_1, ve331_2, rfl, ge331_1, ge331_2⟩ := k44_openM hMe331
          have hv331_1 := hcc331 1 _ rfl
          rw [add_field _ _ 1 (by omega)] at hv331_1
          replace hv331_1 := Option.some.inj (hv331_1.symm.trans hx331_1)
          rw [hv331_1] at ge331_1
          have HL331_1 := Aside0.mk (show Kd.R (Kd.int .i64) 3 _ _ _ _ ((rd_T44 t315 x7_1).f1) from ge331_1)
          clear hv331_1 ge331_1
          have hv331_2 := hcc331 2 _ rfl
          rw [add_field _ _ 2 (by omega)] at hv331_2
          replace hv331_2 := Option.some.inj (hv331_2.symm.trans hx331_2)
          rw [hv331_2] at ge331_2
          have HL331_2 := Aside0.mk (show Kd.R (Kd.int .i64) 3 _ _ _ _ ((rd_T44 t315 x7_1).f2) from ge331_2)
          clear hv331_2 ge331_2
          clear hcc331 hce331
          have HR331_1 := Aside0.mk hi331_1
          have HC331_1 := Aside0.mk hl331_1
          clear hi331_1 hl331_1
          have HR331_2 := Aside0.mk hi331_2
          have HC331_2 := Aside0.mk hl331_2
          clear hi331_2 hl331_2
          replace p331 := eq_true p331
          replace q331 := eq_true q331
          try go_wp2
          have n0_ := Aside0.mk (S_drew HO_5.out)
          have n1_ := Aside0.mk (S_drew HO_6.out)
          have n2_ := Aside0.mk (R_drew HL331_1.out)
          have n3_ := Aside0.mk (R_drew HL331_2.out)
          have n4_ := Aside0.mk (blk_drew BK312.out)
          have n5_ := Aside0.mk (C_drew HR321_1.out)
          have n6_ := Aside0.mk (C_drew HR321_2.out)
          have n7_ := Aside0.mk (C_drew HR331_1.out)
          have n8_ := Aside0.mk (C_drew HR331_2.out)
          have n9_ := Aside0.mk (below_drew1 HB.out)
          clear HO_5
          clear HO_6
          clear HL331_1
          clear HL331_2
          clear BK312
          clear HR321_1
          clear HR321_2
          clear HR331_1
          clear HR331_2
          clear HB
          have HO_5 := n0_
          have HO_6 := n1_
          have HL331_1 := n2_
          have HL331_2 := n3_
          have BK312 := n4_
          have HR321_1 := n5_
          have HR321_2 := n6_
          have HR331_1 := n7_
          have HR331_2 := n8_
          have HB := n9_
          clear n0_ n1_ n2_ n3_ n4_ n5_ n6_ n7_ n8_ n9_
          have p336 : 0 ≤ (x10_3 : Int) := of_decide_eq_true (by with_reducible assumption)
          have q336 : x10_3 < (t315.length : Int) := of_decide_eq_true (by with_reducible assumption)
          obtain ⟨ad336, A336_1, c336_1, A336_2, c336_2, e336, hx336_0, hx336_1, hx336_2, hl336_1, hi336_1, hl336_2, hi336_2⟩ := at_T44 (S_reads' HO_5.out).2.2 x10_3 p336 q336
          obtain rfl : ad321 = ad336 := (by injection e336)
          obtain ⟨ce336, hce336, hMe336, hcc336⟩ := S_get HO_5.out z44 x10_3 p336 (by first | exact q336 | exact of_decide_eq_true (by with_reducible assumption) | (have e_ := (S_reads' HO_5.out).1; omega))
          obtain ⟨ve336_1, ve336_2, rfl, ge336_1, ge336_2⟩ := k44_openM hMe336
          have hv336_1 := hcc336 1 _ rfl
          rw [add_field _ _ 1 (by omega)] at hv336_1
          replace hv336_1 := Option.some.inj (hv336_1.symm.trans hx336_1)
          rw [hv336_1] at ge336_1
          have HL336_1 := Aside0.mk (show Kd.R (Kd.int .i64) 3 _ _ _ _ ((rd_T44 t315 x10_3).f1) from ge336_1)
          clear hv336_1 ge336_1
          have hv336_2 := hcc336 2 _ rfl
          rw [add_field _ _ 2 (by omega)] at hv336_2
          replace hv336_2 := Option.some.inj (hv336_2.symm.trans hx336_2)
          rw [hv336_2] at ge336_2
          have HL336_2 := Aside0.mk (show Kd.R (Kd.int .i64) 3 _ _ _ _ ((rd_T44 t315 x10_3).f2) from ge336_2)
          clear hv336_2 ge336_2
          clear hcc336 hce336
          have HR336_1 := Aside0.mk hi336_1
          have HC336_1 := Aside0.mk hl336_1
          clear hi336_1 hl336_1
          have HR336_2 := Aside0.mk hi336_2
          have HC336_2 := Aside0.mk hl336_2
          clear hi336_2 hl336_2
          replace p336 := eq_true p336
          replace q336 := eq_true q336
          have p337 : 0 ≤ (x7_1 : Int) := of_decide_eq_true (by with_reducible assumption)
          have q337 : x7_1 < (t315.length : Int) := of_decide_eq_true (by with_reducible assumption)
          obtain ⟨ad337, A337_1, c337_1, A337_2, c337_2, e337, hx337_0, hx337_1, hx337_2, hl337_1, hi337_1, hl337_2, hi337_2⟩ := at_T44 (S_reads' HO_5.out).2.2 x7_1 p337 q337
          obtain rfl : ad321 = ad337 := (by injection e337)
          obtain ⟨ce337, hce337, hMe337, hcc337⟩ := S_get HO_5.out z44 x7_1 p337 (by first | exact q337 | exact of_decide_eq_true (by with_reducible assumption) | (have e_ := (S_reads' HO_5.out).1; omega))
          obtain ⟨ve337_1, ve337_2, rfl, ge337_1, ge337_2⟩ := k44_openM hMe337
          have hv337_1 := hcc337 1 _ rfl
          rw [add_field _ _ 1 (by omega)] at hv337_1
          replace hv337_1 := Option.some.inj (hv337_1.symm.trans hx337_1)
          rw [hv337_1] at ge337_1
          have HL337_1 := Aside0.mk (show Kd.R (Kd.int .i64) 3 _ _ _ _ ((rd_T44 t315 x7_1).f1) from ge337_1)
          clear hv337_1 ge337_1
          have hv337_2 := hcc337 2 _ rfl
          rw [add_field _ _ 2 (by omega)] at hv337_2
          replace hv337_2 := Option.some.inj (hv337_2.symm.trans hx337_2)
          rw [hv337_2] at ge337_2
          have HL337_2 := Aside0.mk (show Kd.R (Kd.int .i64) 3 _ _ _ _ ((rd_T44 t315 x7_1).f2) from ge337_2)
          clear hv337_2 ge337_2
          clear hcc337 hce337
          have HR337_1 := Aside0.mk hi337_1
          have HC337_1 := Aside0.mk hl337_1
          clear hi337_1 hl337_1
          have HR337_2 := Aside0.mk hi337_2
          have HC337_2 := Aside0.mk hl337_2
          clear hi337_2 hl337_2
          replace p337 := eq_true p337
          replace q337 := eq_true q337
          refine start_ (n := 42) (S := fun w' => w'.cell? (ad321.add ((x10_3).toNat * 3)) = some (.int .i64 ((rd_T44 t315 x10_3).f0)) ∧ w'.cell? ⟨(ad321.add ((x10_3).toNat * 3)).block, (ad321.add ((x10_3).toNat * 3)).off + 1, none⟩ = some (.slice A336_1 ((rd_T44 t315 x10_3).f1).length c336_1) ∧ w'.cell? ⟨(ad321.add ((x10_3).toNat * 3)).block, (ad321.add ((x10_3).toNat * 3)).off + 2, none⟩ = some (.slice A336_2 ((rd_T44 t315 x10_3).f2).length c336_2) ∧ w'.cell? (ad321.add ((x7_1).toNat * 3)) = some (.int .i64 ((rd_T44 t315 x7_1).f0)) ∧ w'.cell? ⟨(ad321.add ((x7_1).toNat * 3)).block, (ad321.add ((x7_1).toNat * 3)).off + 1, none⟩ = some (.slice A337_1 ((rd_T44 t315 x7_1).f1).length c337_1) ∧ w'.cell? ⟨(ad321.add ((x7_1).toNat * 3)).block, (ad321.add ((x7_1).toNat * 3)).off + 2, none⟩ = some (.slice A337_2 ((rd_T44 t315 x7_1).f2).length c337_2)) (ds := []) #[false, false, false, false, false, false, false, false, false, false, false, false, false, false, false, false, false, false, false, false, false, false, false, false, false, false, false, false, false, false, false, false, false, false, false, false, false, false, false, false, false, false] (by kernel_rfl) rfl rfl ⟨hx336_0, hx336_1, hx336_2, hx337_0, hx337_1, hx337_2⟩ (fun hHeld => ?_); refine with_tabW fettlelaw07_LoopsLie.tab25 fettlelaw07_LoopsLie.bits25 (fun HT_ HW_ => ?_)
          generalize wr.drew = w52 at HO_5 HO_6 HL331_1 HL331_2 BK312 HR321_1 HR321_2 HR331_1 HR331_2 HB HL336_1 HL336_2 HL337_1 HL337_2 HR336_1 HR336_2 HR337_1 HR337_2 hx336_0 hx336_1 hx336_2 hx337_0 hx337_1 hx337_2 hHeld ⊢
          refine pu 0 135 (bt 42 1) HT_.out ?_
          refine pu 1 136 (bt 42 3) HT_.out ?_
          refine pu 2 137 (bt 42 7) HT_.out ?_
          refine pu 3 138 (bt 42 15) HT_.out ?_
          refine pu 5 140 (bt 42 47) HT_.out ?_
          refine pu 6 141 (bt 42 111) HT_.out ?_
          refine pu 7 142 (bt 42 239) HT_.out ?_
          refine pu 8 143 (bt 42 495) HT_.out ?_
          refine tk 4 139 (bt 42 511) HT_.out HW_.out hHeld rfl rfl (by rintro w' ⟨s0, s1, s2, s3, s4, s5⟩; go_simp; with_reducible rfl) ?_
          refine tk 9 144 (bt 42 1023) HT_.out HW_.out hHeld rfl rfl (by rintro w' ⟨s0, s1, s2, s3, s4, s5⟩; go_simp; with_reducible rfl) ?_
          refine pu 10 145 (bt 42 2047) HT_.out ?_
          refine pu 11 146 (bt 42 4095) HT_.out ?_
          refine pn 12 147 (bt 42 8191) HT_.out ?_
          refine pn 13 148 (bt 42 16383) HT_.out ?_
          refine pn 14 149 (bt 42 32767) HT_.out ?_
          refine pn 15 150 (bt 42 65535) HT_.out ?_
          refine pn 16 151 (bt 42 131071) HT_.out ?_
          refine pn 17 152 (bt 42 262143) HT_.out ?_
          refine pn 18 153 (bt 42 524287) HT_.out ?_
          refine pn 19 154 (bt 42 1048575) HT_.out ?_
          refine pn 20 155 (bt 42 2097151) HT_.out ?_
          refine pn 21 156 (bt 42 4194303) HT_.out ?_
          refine pn 22 157 (bt 42 8388607) HT_.out ?_
          refine pn 23 158 (bt 42 16777215) HT_.out ?_
          refine pn 24 159 (bt 42 33554431) HT_.out ?_
          refine pn 25 160 (bt 42 67108863) HT_.out ?_
          refine pn 26 161 (bt 42 134217727) HT_.out ?_
          refine pn 27 162 (bt 42 268435455) HT_.out ?_
          refine pn 28 163 (bt 42 536870911) HT_.out ?_
          refine pn 29 164 (bt 42 1073741823) HT_.out ?_
          refine pn 30 165 (bt 42 2147483647) HT_.out ?_
          refine pn 31 166 (bt 42 4294967295) HT_.out ?_
          refine pn 32 167 (bt 42 8589934591) HT_.out ?_
          refine pn 33 168 (bt 42 17179869183) HT_.out ?_
          refine pn 34 169 (bt 42 34359738367) HT_.out ?_
          refine pn 35 170 (bt 42 68719476735) HT_.out ?_
          refine pn 36 171 (bt 42 137438953471) HT_.out ?_
          refine pn 37 172 (bt 42 274877906943) HT_.out ?_
          refine pn 38 173 (bt 42 549755813887) HT_.out ?_
          refine pn 39 174 (bt 42 1099511627775) HT_.out ?_
          refine pn 40 175 (bt 42 2199023255551) HT_.out ?_
          refine pu 41 176 (bt 42 4398046511103) HT_.out ?_
          refine done_ (done_of HT_.out (by kernel_rfl)) ?_
          try go_wp2
          go_ret
          exact ⟨by first | rfl | (simp [errW_none, errW_some] <;> rfl) | (simp [*, errW_none, errW_some] <;> rfl), by repeat (first | (with_reducible first | exact HB.out | apply below_alloc | apply pw_below_drewN | apply below_drew1 | refine below_set ?_ GE312.out) | exact HB.out)⟩
        rw [if_neg c51] at H
        have c51b0 : (((rd_T44 t315 x10_3).f0) == ((rd_T44 t315 x7_1).f0)) = false := beq_eq_false_iff_ne.mpr c51
        have c51b1 : (((rd_T44 t315 x10_3).f0) != ((rd_T44 t315 x7_1).f0)) = true := bne_iff_ne.mpr c51
        by_cases c53 : x11_4 = true
        · subst c53
          have H1 : ((fettlelaw07_has.f k4 ((rd_T44 t315 x7_1).f1) ((rd_T44 t315 x10_3).f0)).bind fun t340 => (if t340 = true then (fettlelaw07_LoopsLie.l2 k4 t313 t315 t318 x7_1 (wrap64 (x10_3 + 1))) else ((fettlelaw07_has.f k4 ((rd_T44 t315 x10_3).f1) ((rd_T44 t315 x7_1).f0)).bind fun t343 => (if t343 = true then (fettlelaw07_LoopsLie.l2 k4 t313 t315 t318 x7_1 (wrap64 (x10_3 + 1))) else (some false))))) = some r := by rw [if_pos rfl] at H; exact H
          clear H
          have H := H1
          clear H1
          replace H := Option.bind_eq_some_iff.mp H
          obtain ⟨t340, A540, H⟩ := H
          replace H : (if t340 = true then (fettlelaw07_LoopsLie.l2 k4 t313 t315 t318 x7_1 (wrap64 (x10_3 + 1))) else ((fettlelaw07_has.f k4 ((rd_T44 t315 x10_3).f1) ((rd_T44 t315 x7_1).f0)).bind fun t343 => (if t343 = true then (fettlelaw07_LoopsLie.l2 k4 t313 t315 t318 x7_1 (wrap64 (x10_3 + 1))) else (some false)))) = some r := H
          have A54 := Aside0.mk A540
          clear A540
          by_cases c55 : t340 = true
          · subst c55
            have H1 : (fettlelaw07_LoopsLie.l2 k4 t313 t315 t318 x7_1 (wrap64 (x10_3 + 1))) = some r := by rw [if_pos rfl] at H; exact H
            clear H
            have H := H1
            clear H1
            have H' := Aside0.mk H
            clear H
            have p331 : 0 ≤ (x7_1 : Int) := of_decide_eq_true (by with_reducible assumption)
            have q331 : x7_1 < (t315.length : Int) := of_decide_eq_true (by with_reducible assumption)
            obtain ⟨ad331, A331_1, c331_1, A331_2, c331_2, e331, hx331_0, hx331_1, hx331_2, hl331_1, hi331_1, hl331_2, hi331_2⟩ := at_T44 (S_reads' HO_5.out).2.2 x7_1 p331 q331
            obtain rfl : ad321 = ad331 := (by injection e331)
            obtain ⟨ce331, hce331, hMe331, hcc331⟩ := S_get HO_5.out z44 x7_1 p331 (by first | exact q331 | exact of_decide_eq_true (by with_reducible assumption) | (have e_ := (S_reads' HO_5.out).1; omega))
            obtain ⟨ve331_1, ve331_2, rfl, ge331_1, ge331_2⟩ := k44_openM hMe331
            have hv331_1 := hcc331 1 _ rfl
            rw [add_field _ _ 1 (by omega)] at hv331_1
            replace hv331_1 := Option.some.inj (hv331_1.symm.trans hx331_1)
            rw [hv331_1] at ge331_1
            have HL331_1 := Aside0.mk (show Kd.R (Kd.int .i64) 3 _ _ _ _ ((rd_T44 t315 x7_1).f1) from ge331_1)
            clear hv331_1 ge331_1
            have hv331_2 := hcc331 2 _ rfl
            rw [add_field _ _ 2 (by omega)] at hv331_2
            replace hv331_2 := Option.some.inj (hv331_2.symm.trans hx331_2)
            rw [hv331_2] at ge331_2
            have HL331_2 := Aside0.mk (show Kd.R (Kd.int .i64) 3 _ _ _ _ ((rd_T44 t315 x7_1).f2) from ge331_2)
            clear hv331_2 ge331_2
            clear hcc331 hce331
            have HR331_1 := Aside0.mk hi331_1
            have HC331_1 := Aside0.mk hl331_1
            clear hi331_1 hl331_1
            have HR331_2 := Aside0.mk hi331_2
            have HC331_2 := Aside0.mk hl331_2
            clear hi331_2 hl331_2
            replace p331 := eq_true p331
            replace q331 := eq_true q331
            try go_wp2
            have n0_ := Aside0.mk (S_drew HO_5.out)
            have n1_ := Aside0.mk (S_drew HO_6.out)
            have n2_ := Aside0.mk (R_drew HL331_1.out)
            have n3_ := Aside0.mk (R_drew HL331_2.out)
            have n4_ := Aside0.mk (blk_drew BK312.out)
            have n5_ := Aside0.mk (C_drew HR321_1.out)
            have n6_ := Aside0.mk (C_drew HR321_2.out)
            have n7_ := Aside0.mk (C_drew HR331_1.out)
            have n8_ := Aside0.mk (C_drew HR331_2.out)
            have n9_ := Aside0.mk (below_drew1 HB.out)
            clear HO_5
            clear HO_6
            clear HL331_1
            clear HL331_2
            clear BK312
            clear HR321_1
            clear HR321_2
            clear HR331_1
            clear HR331_2
            clear HB
            have HO_5 := n0_
            have HO_6 := n1_
            have HL331_1 := n2_
            have HL331_2 := n3_
            have BK312 := n4_
            have HR321_1 := n5_
            have HR321_2 := n6_
            have HR331_1 := n7_
            have HR331_2 := n8_
            have HB := n9_
            clear n0_ n1_ n2_ n3_ n4_ n5_ n6_ n7_ n8_ n9_
            have p336 : 0 ≤ (x10_3 : Int) := of_decide_eq_true (by with_reducible assumption)
            have q336 : x10_3 < (t315.length : Int) := of_decide_eq_true (by with_reducible assumption)
            obtain ⟨ad336, A336_1, c336_1, A336_2, c336_2, e336, hx336_0, hx336_1, hx336_2, hl336_1, hi336_1, hl336_2, hi336_2⟩ := at_T44 (S_reads' HO_5.out).2.2 x10_3 p336 q336
            obtain rfl : ad321 = ad336 := (by injection e336)
            obtain ⟨ce336, hce336, hMe336, hcc336⟩ := S_get HO_5.out z44 x10_3 p336 (by first | exact q336 | exact of_decide_eq_true (by with_reducible assumption) | (have e_ := (S_reads' HO_5.out).1; omega))
            obtain ⟨ve336_1, ve336_2, rfl, ge336_1, ge336_2⟩ := k44_openM hMe336
            have hv336_1 := hcc336 1 _ rfl
            rw [add_field _ _ 1 (by omega)] at hv336_1
            replace hv336_1 := Option.some.inj (hv336_1.symm.trans hx336_1)
            rw [hv336_1] at ge336_1
            have HL336_1 := Aside0.mk (show Kd.R (Kd.int .i64) 3 _ _ _ _ ((rd_T44 t315 x10_3).f1) from ge336_1)
            clear hv336_1 ge336_1
            have hv336_2 := hcc336 2 _ rfl
            rw [add_field _ _ 2 (by omega)] at hv336_2
            replace hv336_2 := Option.some.inj (hv336_2.symm.trans hx336_2)
            rw [hv336_2] at ge336_2
            have HL336_2 := Aside0.mk (show Kd.R (Kd.int .i64) 3 _ _ _ _ ((rd_T44 t315 x10_3).f2) from ge336_2)
            clear hv336_2 ge336_2
            clear hcc336 hce336
            have HR336_1 := Aside0.mk hi336_1
            have HC336_1 := Aside0.mk hl336_1
            clear hi336_1 hl336_1
            have HR336_2 := Aside0.mk hi336_2
            have HC336_2 := Aside0.mk hl336_2
            clear hi336_2 hl336_2
            replace p336 := eq_true p336
            replace q336 := eq_true q336
            have p337 : 0 ≤ (x7_1 : Int) := of_decide_eq_true (by with_reducible assumption)
            have q337 : x7_1 < (t315.length : Int) := of_decide_eq_true (by with_reducible assumption)
            obtain ⟨ad337, A337_1, c337_1, A337_2, c337_2, e337, hx337_0, hx337_1, hx337_2, hl337_1, hi337_1, hl337_2, hi337_2⟩ := at_T44 (S_reads' HO_5.out).2.2 x7_1 p337 q337
            obtain rfl : ad321 = ad337 := (by injection e337)
            obtain ⟨ce337, hce337, hMe337, hcc337⟩ := S_get HO_5.out z44 x7_1 p337 (by first | exact q337 | exact of_decide_eq_true (by with_reducible assumption) | (have e_ := (S_reads' HO_5.out).1; omega))
            obtain ⟨ve337_1, ve337_2, rfl, ge337_1, ge337_2⟩ := k44_openM hMe337
            have hv337_1 := hcc337 1 _ rfl
            rw [add_field _ _ 1 (by omega)] at hv337_1
            replace hv337_1 := Option.some.inj (hv337_1.symm.trans hx337_1)
            rw [hv337_1] at ge337_1
            have HL337_1 := Aside0.mk (show Kd.R (Kd.int .i64) 3 _ _ _ _ ((rd_T44 t315 x7_1).f1) from ge337_1)
            clear hv337_1 ge337_1
            have hv337_2 := hcc337 2 _ rfl
            rw [add_field _ _ 2 (by omega)] at hv337_2
            replace hv337_2 := Option.some.inj (hv337_2.symm.trans hx337_2)
            rw [hv337_2] at ge337_2
            have HL337_2 := Aside0.mk (show Kd.R (Kd.int .i64) 3 _ _ _ _ ((rd_T44 t315 x7_1).f2) from ge337_2)
            clear hv337_2 ge337_2
            clear hcc337 hce337
            have HR337_1 := Aside0.mk hi337_1
            have HC337_1 := Aside0.mk hl337_1
            clear hi337_1 hl337_1
            have HR337_2 := Aside0.mk hi337_2
            have HC337_2 := Aside0.mk hl337_2
            clear hi337_2 hl337_2
            replace p337 := eq_true p337
            replace q337 := eq_true q337
            have hx338_0 := hx337_0
            have hx338_1 := hx337_1
            have hx338_2 := hx337_2
            have HL338_1 := HL337_1
            have HL338_2 := HL337_2
            have HR338_1 := HR337_1
            have HR338_2 := HR337_2
            have HC338_1 := HC337_1
            have hx339_0 := hx336_0
            have hx339_1 := hx336_1
            have hx339_2 := hx336_2
            have HL339_1 := HL336_1
            have HL339_2 := HL336_2
            have HR339_1 := HR336_1
            have HR339_2 := HR336_2
            refine start_ (n := 42) (S := fun w' => w'.cell? (ad321.add ((x10_3).toNat * 3)) = some (.int .i64 ((rd_T44 t315 x10_3).f0)) ∧ w'.cell? ⟨(ad321.add ((x10_3).toNat * 3)).block, (ad321.add ((x10_3).toNat * 3)).off + 1, none⟩ = some (.slice A336_1 ((rd_T44 t315 x10_3).f1).length c336_1) ∧ w'.cell? ⟨(ad321.add ((x10_3).toNat * 3)).block, (ad321.add ((x10_3).toNat * 3)).off + 2, none⟩ = some (.slice A336_2 ((rd_T44 t315 x10_3).f2).length c336_2) ∧ w'.cell? (ad321.add ((x7_1).toNat * 3)) = some (.int .i64 ((rd_T44 t315 x7_1).f0)) ∧ w'.cell? ⟨(ad321.add ((x7_1).toNat * 3)).block, (ad321.add ((x7_1).toNat * 3)).off + 1, none⟩ = some (.slice A337_1 ((rd_T44 t315 x7_1).f1).length c337_1) ∧ w'.cell? ⟨(ad321.add ((x7_1).toNat * 3)).block, (ad321.add ((x7_1).toNat * 3)).off + 2, none⟩ = some (.slice A337_2 ((rd_T44 t315 x7_1).f2).length c337_2) ∧ w'.cell? (ad321.add ((x7_1).toNat * 3)) = some (.int .i64 ((rd_T44 t315 x7_1).f0)) ∧ w'.cell? ⟨(ad321.add ((x7_1).toNat * 3)).block, (ad321.add ((x7_1).toNat * 3)).off + 1, none⟩ = some (.slice A337_1 ((rd_T44 t315 x7_1).f1).length c337_1) ∧ w'.cell? ⟨(ad321.add ((x7_1).toNat * 3)).block, (ad321.add ((x7_1).toNat * 3)).off + 2, none⟩ = some (.slice A337_2 ((rd_T44 t315 x7_1).f2).length c337_2) ∧ w'.cell? (ad321.add ((x10_3).toNat * 3)) = some (.int .i64 ((rd_T44 t315 x10_3).f0)) ∧ w'.cell? ⟨(ad321.add ((x10_3).toNat * 3)).block, (ad321.add ((x10_3).toNat * 3)).off + 1, none⟩ = some (.slice A336_1 ((rd_T44 t315 x10_3).f1).length c336_1) ∧ w'.cell? ⟨(ad321.add ((x10_3).toNat * 3)).block, (ad321.add ((x10_3).toNat * 3)).off + 2, none⟩ = some (.slice A336_2 ((rd_T44 t315 x10_3).f2).length c336_2)) (ds := []) #[false, false, false, false, false, false, false, false, false, false, false, false, false, false, false, false, false, false, false, false, false, false, false, false, false, false, false, false, false, false, false, false, false, false, false, false, false, false, false, false, false, false] (by kernel_rfl) rfl rfl ⟨hx336_0, hx336_1, hx336_2, hx337_0, hx337_1, hx337_2, hx338_0, hx338_1, hx338_2, hx339_0, hx339_1, hx339_2⟩ (fun hHeld => ?_); refine with_tabW fettlelaw07_LoopsLie.tab25 fettlelaw07_LoopsLie.bits25 (fun HT_ HW_ => ?_)
            generalize wr.drew = w56 at HO_5 HO_6 HL331_1 HL331_2 BK312 HR321_1 HR321_2 HR331_1 HR331_2 HB HL336_1 HL336_2 HL337_1 HL337_2 HL338_1 HL338_2 HL339_1 HL339_2 HR336_1 HR336_2 HR337_1 HR337_2 HR338_1 HR338_2 HR339_1 HR339_2 hx336_0 hx336_1 hx336_2 hx337_0 hx337_1 hx337_2 hx338_0 hx338_1 hx338_2 hx339_0 hx339_1 hx339_2 hHeld ⊢
            refine pu 0 135 (bt 42 1) HT_.out ?_
            refine pu 1 136 (bt 42 3) HT_.out ?_
            refine pu 2 137 (bt 42 7) HT_.out ?_
            refine pu 3 138 (bt 42 15) HT_.out ?_
            refine pu 5 140 (bt 42 47) HT_.out ?_
            refine pu 6 141 (bt 42 111) HT_.out ?_
            refine pu 7 142 (bt 42 239) HT_.out ?_
            refine pu 8 143 (bt 42 495) HT_.out ?_
            refine tk 4 139 (bt 42 511) HT_.out HW_.out hHeld rfl rfl (by rintro w' ⟨s0, s1, s2, s3, s4, s5, s6, s7, s8, s9, s10, s11⟩; go_simp; with_reducible rfl) ?_
            refine tk 9 144 (bt 42 1023) HT_.out HW_.out hHeld rfl rfl (by rintro w' ⟨s0, s1, s2, s3, s4, s5, s6, s7, s8, s9, s10, s11⟩; go_simp; with_reducible rfl) ?_
            refine pu 10 145 (bt 42 2047) HT_.out ?_
            refine pu 11 146 (bt 42 4095) HT_.out ?_
            refine pu 12 147 (bt 42 8191) HT_.out ?_
            refine pu 13 148 (bt 42 16383) HT_.out ?_
            refine pu 14 149 (bt 42 32767) HT_.out ?_
            refine pu 15 150 (bt 42 65535) HT_.out ?_
            refine pu 16 151 (bt 42 131071) HT_.out ?_
            refine pu 17 152 (bt 42 262143) HT_.out ?_
            refine pu 19 154 (bt 42 786431) HT_.out ?_
            refine pu 20 155 (bt 42 1835007) HT_.out ?_
            refine pu 21 156 (bt 42 3932159) HT_.out ?_
            refine pu 22 157 (bt 42 8126463) HT_.out ?_
            refine tk 18 153 (bt 42 8388607) HT_.out HW_.out hHeld rfl rfl (by rintro w' ⟨s0, s1, s2, s3, s4, s5, s6, s7, s8, s9, s10, s11⟩; go_simp; with_reducible rfl) ?_
            refine tk 23 158 (bt 42 16777215) HT_.out HW_.out hHeld rfl rfl (by rintro w' ⟨s0, s1, s2, s3, s4, s5, s6, s7, s8, s9, s10, s11⟩; go_simp; with_reducible rfl) ?_
            refine one_ (i := 24) (N := some 159) (bt 42 33554431) rfl rfl (one_of HT_.out (by kernel_rfl)) (by decide) (fun K hK => ?_)
            refine goes_ Try.func28 (by kernel_rfl) rfl #[.slice A337_1 ((rd_T44 t315 x7_1).f1).length c337_1, .int .i64 ((rd_T44 t315 x10_3).f0)] (by rfl) rfl rfl (by (try simp only [List.map_toArray, List.map_cons, List.map_nil]); first | done | rfl) ?_
            with_reducible refine (fettlelaw07_has.calls k4 _ _ ((rd_T44 t315 x7_1).f1) ((rd_T44 t315 x10_3).f0) true _ ?side1 ?side2 A54.out).mono ?_
            (case side1 => repeat (first | exact (by repeat with_reducible first | exact HR338_1.out | refine C_alloc ?_ _ | refine C_drewN ?_ _ | refine C_drew ?_) | (with_reducible refine C_alloc ?_ _) | (with_reducible refine C_drewN ?_ _) | (with_reducible refine C_drew ?_)))
            (case side2 => exact HC338_1.out)
            rintro e w' ⟨rfl, ⟨nd, rfl⟩⟩
            refine ⟨_, rfl, ?_⟩
            refine hK.out _ _ ⟨hHeld.1, hHeld.2.1, hHeld.2.2.1, hHeld.2.2.2.1, hHeld.2.2.2.2.1, hHeld.2.2.2.2.2.1, hHeld.2.2.2.2.2.2.1, hHeld.2.2.2.2.2.2.2.1, hHeld.2.2.2.2.2.2.2.2.1, hHeld.2.2.2.2.2.2.2.2.2.1, hHeld.2.2.2.2.2.2.2.2.2.2.1, hHeld.2.2.2.2.2.2.2.2.2.2.2⟩ (fun hHeld => ?_)
            clear hK K
            refine norm_ (a' := ?_) ?_ ?_
            rotate_left
            · show Act.put _ (some 159) _ = _
              simp only [Act.put, List.setIfInBounds_toArray, List.set_cons_zero, List.set_cons_succ, i64_w, i32_w]
              rfl
            refine pu 25 160 (bt 42 67108863) HT_.out ?_
            refine pu 26 161 (bt 42 134217727) HT_.out ?_
            refine pu 27 162 (bt 42 268435455) HT_.out ?_
            refine pn 28 163 (bt 42 536870911) HT_.out ?_
            refine pn 29 164 (bt 42 1073741823) HT_.out ?_
            refine pn 30 165 (bt 42 2147483647) HT_.out ?_
            refine pn 31 166 (bt 42 4294967295) HT_.out ?_
            refine pn 32 167 (bt 42 8589934591) HT_.out ?_
            refine pn 33 168 (bt 42 17179869183) HT_.out ?_
            refine pn 34 169 (bt 42 34359738367) HT_.out ?_
            refine pn 35 170 (bt 42 68719476735) HT_.out ?_
            refine pn 36 171 (bt 42 137438953471) HT_.out ?_
            refine pn 37 172 (bt 42 274877906943) HT_.out ?_
            refine pn 38 173 (bt 42 549755813887) HT_.out ?_
            refine pn 39 174 (bt 42 1099511627775) HT_.out ?_
            refine pu 40 175 (bt 42 2199023255551) HT_.out ?_
            refine pu 41 176 (bt 42 4398046511103) HT_.out ?_
            refine done_ (done_of HT_.out (by kernel_rfl)) ?_
            try go_wp2
            go_roundg k4
            case measure => have := HK1.out; have := HK2.out; have := HK3.out; have := HK4.out; omega
            case rel => exact ⟨(wrap64 (x10_3 + 1)), (by first | rfl | (simp; done) | (simp [*]; done)), H', ⟨by have := HK1.out; have := HK2.out; have := HK3.out; have := HK4.out; omega⟩, ⟨by (with_reducible repeat (first | apply S_alloc | apply S_drewN | apply S_drew)); exact HO_5.out⟩, ⟨by (with_reducible repeat (first | apply S_alloc | apply S_drewN | apply S_drew)); exact HO_6.out⟩, ⟨by (with_reducible repeat (first | refine blk_drewN ?_ _ | refine blk_drew ?_ | refine blk_alloc ?_ _)); exact BK312.out⟩, ⟨by repeat (first | (with_reducible exact HR321_1.out) | (with_reducible refine C_alloc ?_ _) | (with_reducible refine C_drewN ?_ _) | (with_reducible refine C_drew ?_) | exact HR321_1.out)⟩, ⟨by repeat (first | (with_reducible exact HR321_2.out) | (with_reducible refine C_alloc ?_ _) | (with_reducible refine C_drewN ?_ _) | (with_reducible refine C_drew ?_) | exact HR321_2.out)⟩, ⟨by repeat (first | (with_reducible first | exact HB.out | apply below_alloc | apply pw_below_drewN | apply below_drew1 | refine below_set ?_ GE312.out) | exact HB.out)⟩⟩
          replace c55 := Bool.eq_false_iff.mpr c55
          subst c55
          have H1 : ((fettlelaw07_has.f k4 ((rd_T44 t315 x10_3).f1) ((rd_T44 t315 x7_1).f0)).bind fun t343 => (if t343 = true then (fettlelaw07_LoopsLie.l2 k4 t313 t315 t318 x7_1 (wrap64 (x10_3 + 1))) else (some false))) = some r := by rw [if_neg (show ¬ (false = true) by decide)] at H; exact H
          clear H
          have H := H1
          clear H1
          replace H := Option.bind_eq_some_iff.mp H
          obtain ⟨t343, A570, H⟩ := H
          replace H : (if t343 = true then (fettlelaw07_LoopsLie.l2 k4 t313 t315 t318 x7_1 (wrap64 (x10_3 + 1))) else (some false)) = some r := H
          have A57 := Aside0.mk A570
          clear A570
          by_cases c58 : t343 = true
          · subst c58
            have H1 : (fettlelaw07_LoopsLie.l2 k4 t313 t315 t318 x7_1 (wrap64 (x10_3 + 1))) = some r := by rw [if_pos rfl] at H; exact H
            clear H
            have H := H1
            clear H1
            have H' := Aside0.mk H
            clear H
            have p331 : 0 ≤ (x7_1 : Int) := of_decide_eq_true (by with_reducible assumption)
            have q331 : x7_1 < (t315.length : Int) := of_decide_eq_true (by with_reducible assumption)
            obtain ⟨ad331, A331_1, c331_1, A331_2, c331_2, e331, hx331_0, hx331_1, hx331_2, hl331_1, hi331_1, hl331_2, hi331_2⟩ := at_T44 (S_reads' HO_5.out).2.2 x7_1 p331 q331
            obtain rfl : ad321 = ad331 := (by injection e331)
            obtain ⟨ce331, hce331, hMe331, hcc331⟩ := S_get HO_5.out z44 x7_1 p331 (by first | exact q331 | exact of_decide_eq_true (by with_reducible assumption) | (have e_ := (S_reads' HO_5.out).1; omega))
            obtain ⟨ve331_1, ve331_2, rfl, ge331_1, ge331_2⟩ := k44_openM hMe331
            have hv331_1 := hcc331 1 _ rfl
            rw [add_field _ _ 1 (by omega)] at hv331_1
            replace hv331_1 := Option.some.inj (hv331_1.symm.trans hx331_1)
            rw [hv331_1] at ge331_1
            have HL331_1 := Aside0.mk (show Kd.R (Kd.int .i64) 3 _ _ _ _ ((rd_T44 t315 x7_1).f1) from ge331_1)
            clear hv331_1 ge331_1
            have hv331_2 := hcc331 2 _ rfl
            rw [add_field _ _ 2 (by omega)] at hv331_2
            replace hv331_2 := Option.some.inj (hv331_2.symm.trans hx331_2)
            rw [hv331_2] at ge331_2
            have HL331_2 := Aside0.mk (show Kd.R (Kd.int .i64) 3 _ _ _ _ ((rd_T44 t315 x7_1).f2) from ge331_2)
            clear hv331_2 ge331_2
            clear hcc331 hce331
            have HR331_1 := Aside0.mk hi331_1
            have HC331_1 := Aside0.mk hl331_1
            clear hi331_1 hl331_1
            have HR331_2 := Aside0.mk hi331_2
            have HC331_2 := Aside0.mk hl331_2
            clear hi331_2 hl331_2
            replace p331 := eq_true p331
            replace q331 := eq_true q331
            try go_wp2
            have n0_ := Aside0.mk (S_drew HO_5.out)
            have n1_ := Aside0.mk (S_drew HO_6.out)
            have n2_ := Aside0.mk (R_drew HL331_1.out)
            have n3_ := Aside0.mk (R_drew HL331_2.out)
            have n4_ := Aside0.mk (blk_drew BK312.out)
            have n5_ := Aside0.mk (C_drew HR321_1.out)
            have n6_ := Aside0.mk (C_drew HR321_2.out)
            have n7_ := Aside0.mk (C_drew HR331_1.out)
            have n8_ := Aside0.mk (C_drew HR331_2.out)
            have n9_ := Aside0.mk (below_drew1 HB.out)
            clear HO_5
            clear HO_6
            clear HL331_1
            clear HL331_2
            clear BK312
            clear HR321_1
            clear HR321_2
            clear HR331_1
            clear HR331_2
            clear HB
            have HO_5 := n0_
            have HO_6 := n1_
            have HL331_1 := n2_
            have HL331_2 := n3_
            have BK312 := n4_
            have HR321_1 := n5_
            have HR321_2 := n6_
            have HR331_1 := n7_
            have HR331_2 := n8_
            have HB := n9_
            clear n0_ n1_ n2_ n3_ n4_ n5_ n6_ n7_ n8_ n9_
            have p336 : 0 ≤ (x10_3 : Int) := of_decide_eq_true (by with_reducible assumption)
            have q336 : x10_3 < (t315.length : Int) := of_decide_eq_true (by with_reducible assumption)
            obtain ⟨ad336, A336_1, c336_1, A336_2, c336_2, e336, hx336_0, hx336_1, hx336_2, hl336_1, hi336_1, hl336_2, hi336_2⟩ := at_T44 (S_reads' HO_5.out).2.2 x10_3 p336 q336
            obtain rfl : ad321 = ad336 := (by injection e336)
            obtain ⟨ce336, hce336, hMe336, hcc336⟩ := S_get HO_5.out z44 x10_3 p336 (by first | exact q336 | exact of_decide_eq_true (by with_reducible assumption) | (have e_ := (S_reads' HO_5.out).1; omega))
            obtain ⟨ve336_1, ve336_2, rfl, ge336_1, ge336_2⟩ := k44_openM hMe336
            have hv336_1 := hcc336 1 _ rfl
            rw [add_field _ _ 1 (by omega)] at hv336_1
            replace hv336_1 := Option.some.inj (hv336_1.symm.trans hx336_1)
            rw [hv336_1] at ge336_1
            have HL336_1 := Aside0.mk (show Kd.R (Kd.int .i64) 3 _ _ _ _ ((rd_T44 t315 x10_3).f1) from ge336_1)
            clear hv336_1 ge336_1
            have hv336_2 := hcc336 2 _ rfl
            rw [add_field _ _ 2 (by omega)] at hv336_2
            replace hv336_2 := Option.some.inj (hv336_2.symm.trans hx336_2)
            rw [hv336_2] at ge336_2
            have HL336_2 := Aside0.mk (show Kd.R (Kd.int .i64) 3 _ _ _ _ ((rd_T44 t315 x10_3).f2) from ge336_2)
            clear hv336_2 ge336_2
            clear hcc336 hce336
            have HR336_1 := Aside0.mk hi336_1
            have HC336_1 := Aside0.mk hl336_1
            clear hi336_1 hl336_1
            have HR336_2 := Aside0.mk hi336_2
            have HC336_2 := Aside0.mk hl336_2
            clear hi336_2 hl336_2
            replace p336 := eq_true p336
            replace q336 := eq_true q336
            have p337 : 0 ≤ (x7_1 : Int) := of_decide_eq_true (by with_reducible assumption)
            have q337 : x7_1 < (t315.length : Int) := of_decide_eq_true (by with_reducible assumption)
            obtain ⟨ad337, A337_1, c337_1, A337_2, c337_2, e337, hx337_0, hx337_1, hx337_2, hl337_1, hi337_1, hl337_2, hi337_2⟩ := at_T44 (S_reads' HO_5.out).2.2 x7_1 p337 q337
            obtain rfl : ad321 = ad337 := (by injection e337)
            obtain ⟨ce337, hce337, hMe337, hcc337⟩ := S_get HO_5.out z44 x7_1 p337 (by first | exact q337 | exact of_decide_eq_true (by with_reducible assumption) | (have e_ := (S_reads' HO_5.out).1; omega))
            obtain ⟨ve337_1, ve337_2, rfl, ge337_1, ge337_2⟩ := k44_openM hMe337
            have hv337_1 := hcc337 1 _ rfl
            rw [add_field _ _ 1 (by omega)] at hv337_1
            replace hv337_1 := Option.some.inj (hv337_1.symm.trans hx337_1)
            rw [hv337_1] at ge337_1
            have HL337_1 := Aside0.mk (show Kd.R (Kd.int .i64) 3 _ _ _ _ ((rd_T44 t315 x7_1).f1) from ge337_1)
            clear hv337_1 ge337_1
            have hv337_2 := hcc337 2 _ rfl
            rw [add_field _ _ 2 (by omega)] at hv337_2
            replace hv337_2 := Option.some.inj (hv337_2.symm.trans hx337_2)
            rw [hv337_2] at ge337_2
            have HL337_2 := Aside0.mk (show Kd.R (Kd.int .i64) 3 _ _ _ _ ((rd_T44 t315 x7_1).f2) from ge337_2)
            clear hv337_2 ge337_2
            clear hcc337 hce337
            have HR337_1 := Aside0.mk hi337_1
            have HC337_1 := Aside0.mk hl337_1
            clear hi337_1 hl337_1
            have HR337_2 := Aside0.mk hi337_2
            have HC337_2 := Aside0.mk hl337_2
            clear hi337_2 hl337_2
            replace p337 := eq_true p337
            replace q337 := eq_true q337
            have hx338_0 := hx337_0
            have hx338_1 := hx337_1
            have hx338_2 := hx337_2
            have HL338_1 := HL337_1
            have HL338_2 := HL337_2
            have HR338_1 := HR337_1
            have HR338_2 := HR337_2
            have HC338_1 := HC337_1
            have hx339_0 := hx336_0
            have hx339_1 := hx336_1
            have hx339_2 := hx336_2
            have HL339_1 := HL336_1
            have HL339_2 := HL336_2
            have HR339_1 := HR336_1
            have HR339_2 := HR336_2
            have hx341_0 := hx336_0
            have hx341_1 := hx336_1
            have hx341_2 := hx336_2
            have HL341_1 := HL336_1
            have HL341_2 := HL336_2
            have HR341_1 := HR336_1
            have HR341_2 := HR336_2
            have HC341_1 := HC336_1
            have hx342_0 := hx337_0
            have hx342_1 := hx337_1
            have hx342_2 := hx337_2
            have HL342_1 := HL337_1
            have HL342_2 := HL337_2
            have HR342_1 := HR337_1
            have HR342_2 := HR337_2
            refine start_ (n := 42) (S := fun w' => w'.cell? (ad321.add ((x10_3).toNat * 3)) = some (.int .i64 ((rd_T44 t315 x10_3).f0)) ∧ w'.cell? ⟨(ad321.add ((x10_3).toNat * 3)).block, (ad321.add ((x10_3).toNat * 3)).off + 1, none⟩ = some (.slice A336_1 ((rd_T44 t315 x10_3).f1).length c336_1) ∧ w'.cell? ⟨(ad321.add ((x10_3).toNat * 3)).block, (ad321.add ((x10_3).toNat * 3)).off + 2, none⟩ = some (.slice A336_2 ((rd_T44 t315 x10_3).f2).length c336_2) ∧ w'.cell? (ad321.add ((x7_1).toNat * 3)) = some (.int .i64 ((rd_T44 t315 x7_1).f0)) ∧ w'.cell? ⟨(ad321.add ((x7_1).toNat * 3)).block, (ad321.add ((x7_1).toNat * 3)).off + 1, none⟩ = some (.slice A337_1 ((rd_T44 t315 x7_1).f1).length c337_1) ∧ w'.cell? ⟨(ad321.add ((x7_1).toNat * 3)).block, (ad321.add ((x7_1).toNat * 3)).off + 2, none⟩ = some (.slice A337_2 ((rd_T44 t315 x7_1).f2).length c337_2) ∧ w'.cell? (ad321.add ((x7_1).toNat * 3)) = some (.int .i64 ((rd_T44 t315 x7_1).f0)) ∧ w'.cell? ⟨(ad321.add ((x7_1).toNat * 3)).block, (ad321.add ((x7_1).toNat * 3)).off + 1, none⟩ = some (.slice A337_1 ((rd_T44 t315 x7_1).f1).length c337_1) ∧ w'.cell? ⟨(ad321.add ((x7_1).toNat * 3)).block, (ad321.add ((x7_1).toNat * 3)).off + 2, none⟩ = some (.slice A337_2 ((rd_T44 t315 x7_1).f2).length c337_2) ∧ w'.cell? (ad321.add ((x10_3).toNat * 3)) = some (.int .i64 ((rd_T44 t315 x10_3).f0)) ∧ w'.cell? ⟨(ad321.add ((x10_3).toNat * 3)).block, (ad321.add ((x10_3).toNat * 3)).off + 1, none⟩ = some (.slice A336_1 ((rd_T44 t315 x10_3).f1).length c336_1) ∧ w'.cell? ⟨(ad321.add ((x10_3).toNat * 3)).block, (ad321.add ((x10_3).toNat * 3)).off + 2, none⟩ = some (.slice A336_2 ((rd_T44 t315 x10_3).f2).length c336_2) ∧ w'.cell? (ad321.add ((x10_3).toNat * 3)) = some (.int .i64 ((rd_T44 t315 x10_3).f0)) ∧ w'.cell? ⟨(ad321.add ((x10_3).toNat * 3)).block, (ad321.add ((x10_3).toNat * 3)).off + 1, none⟩ = some (.slice A336_1 ((rd_T44 t315 x10_3).f1).length c336_1) ∧ w'.cell? ⟨(ad321.add ((x10_3).toNat * 3)).block, (ad321.add ((x10_3).toNat * 3)).off + 2, none⟩ = some (.slice A336_2 ((rd_T44 t315 x10_3).f2).length c336_2) ∧ w'.cell? (ad321.add ((x7_1).toNat * 3)) = some (.int .i64 ((rd_T44 t315 x7_1).f0)) ∧ w'.cell? ⟨(ad321.add ((x7_1).toNat * 3)).block, (ad321.add ((x7_1).toNat * 3)).off + 1, none⟩ = some (.slice A337_1 ((rd_T44 t315 x7_1).f1).length c337_1) ∧ w'.cell? ⟨(ad321.add ((x7_1).toNat * 3)).block, (ad321.add ((x7_1).toNat * 3)).off + 2, none⟩ = some (.slice A337_2 ((rd_T44 t315 x7_1).f2).length c337_2)) (ds := []) #[false, false, false, false, false, false, false, false, false, false, false, false, false, false, false, false, false, false, false, false, false, false, false, false, false, false, false, false, false, false, false, false, false, false, false, false, false, false, false, false, false, false] (by kernel_rfl) rfl rfl ⟨hx336_0, hx336_1, hx336_2, hx337_0, hx337_1, hx337_2, hx338_0, hx338_1, hx338_2, hx339_0, hx339_1, hx339_2, hx341_0, hx341_1, hx341_2, hx342_0, hx342_1, hx342_2⟩ (fun hHeld => ?_); refine with_tabW fettlelaw07_LoopsLie.tab25 fettlelaw07_LoopsLie.bits25 (fun HT_ HW_ => ?_)
            generalize wr.drew = w59 at HO_5 HO_6 HL331_1 HL331_2 BK312 HR321_1 HR321_2 HR331_1 HR331_2 HB HL336_1 HL336_2 HL337_1 HL337_2 HL338_1 HL338_2 HL339_1 HL339_2 HL341_1 HL341_2 HL342_1 HL342_2 HR336_1 HR336_2 HR337_1 HR337_2 HR338_1 HR338_2 HR339_1 HR339_2 HR341_1 HR341_2 HR342_1 HR342_2 hx336_0 hx336_1 hx336_2 hx337_0 hx337_1 hx337_2 hx338_0 hx338_1 hx338_2 hx339_0 hx339_1 hx339_2 hx341_0 hx341_1 hx341_2 hx342_0 hx342_1 hx342_2 hHeld ⊢
            refine pu 0 135 (bt 42 1) HT_.out ?_
            refine pu 1 136 (bt 42 3) HT_.out ?_
            refine pu 2 137 (bt 42 7) HT_.out ?_
            refine pu 3 138 (bt 42 15) HT_.out ?_
            refine pu 5 140 (bt 42 47) HT_.out ?_
            refine pu 6 141 (bt 42 111) HT_.out ?_
            refine pu 7 142 (bt 42 239) HT_.out ?_
            refine pu 8 143 (bt 42 495) HT_.out ?_
            refine tk 4 139 (bt 42 511) HT_.out HW_.out hHeld rfl rfl (by rintro w' ⟨s0, s1, s2, s3, s4, s5, s6, s7, s8, s9, s10, s11, s12, s13, s14, s15, s16, s17⟩; go_simp; with_reducible rfl) ?_
            refine tk 9 144 (bt 42 1023) HT_.out HW_.out hHeld rfl rfl (by rintro w' ⟨s0, s1, s2, s3, s4, s5, s6, s7, s8, s9, s10, s11, s12, s13, s14, s15, s16, s17⟩; go_simp; with_reducible rfl) ?_
            refine pu 10 145 (bt 42 2047) HT_.out ?_
            refine pu 11 146 (bt 42 4095) HT_.out ?_
            refine pu 12 147 (bt 42 8191) HT_.out ?_
            refine pu 13 148 (bt 42 16383) HT_.out ?_
            refine pu 14 149 (bt 42 32767) HT_.out ?_
            refine pu 15 150 (bt 42 65535) HT_.out ?_
            refine pu 16 151 (bt 42 131071) HT_.out ?_
            refine pu 17 152 (bt 42 262143) HT_.out ?_
            refine pu 19 154 (bt 42 786431) HT_.out ?_
            refine pu 20 155 (bt 42 1835007) HT_.out ?_
            refine pu 21 156 (bt 42 3932159) HT_.out ?_
            refine pu 22 157 (bt 42 8126463) HT_.out ?_
            refine tk 18 153 (bt 42 8388607) HT_.out HW_.out hHeld rfl rfl (by rintro w' ⟨s0, s1, s2, s3, s4, s5, s6, s7, s8, s9, s10, s11, s12, s13, s14, s15, s16, s17⟩; go_simp; with_reducible rfl) ?_
            refine tk 23 158 (bt 42 16777215) HT_.out HW_.out hHeld rfl rfl (by rintro w' ⟨s0, s1, s2, s3, s4, s5, s6, s7, s8, s9, s10, s11, s12, s13, s14, s15, s16, s17⟩; go_simp; with_reducible rfl) ?_
            refine one_ (i := 24) (N := some 159) (bt 42 33554431) rfl rfl (one_of HT_.out (by kernel_rfl)) (by decide) (fun K hK => ?_)
            refine goes_ Try.func28 (by kernel_rfl) rfl #[.slice A337_1 ((rd_T44 t315 x7_1).f1).length c337_1, .int .i64 ((rd_T44 t315 x10_3).f0)] (by rfl) rfl rfl (by (try simp only [List.map_toArray, List.map_cons, List.map_nil]); first | done | rfl) ?_
            with_reducible refine (fettlelaw07_has.calls k4 _ _ ((rd_T44 t315 x7_1).f1) ((rd_T44 t315 x10_3).f0) false _ ?side1 ?side2 A54.out).mono ?_
            (case side1 => repeat (first | exact (by repeat with_reducible first | exact HR338_1.out | refine C_alloc ?_ _ | refine C_drewN ?_ _ | refine C_drew ?_) | (with_reducible refine C_alloc ?_ _) | (with_reducible refine C_drewN ?_ _) | (with_reducible refine C_drew ?_)))
            (case side2 => exact HC338_1.out)
            rintro e w' ⟨rfl, ⟨nd, rfl⟩⟩
            refine ⟨_, rfl, ?_⟩
            refine hK.out _ _ ⟨hHeld.1, hHeld.2.1, hHeld.2.2.1, hHeld.2.2.2.1, hHeld.2.2.2.2.1, hHeld.2.2.2.2.2.1, hHeld.2.2.2.2.2.2.1, hHeld.2.2.2.2.2.2.2.1, hHeld.2.2.2.2.2.2.2.2.1, hHeld.2.2.2.2.2.2.2.2.2.1, hHeld.2.2.2.2.2.2.2.2.2.2.1, hHeld.2.2.2.2.2.2.2.2.2.2.2.1, hHeld.2.2.2.2.2.2.2.2.2.2.2.2.1, hHeld.2.2.2.2.2.2.2.2.2.2.2.2.2.1, hHeld.2.2.2.2.2.2.2.2.2.2.2.2.2.2.1, hHeld.2.2.2.2.2.2.2.2.2.2.2.2.2.2.2.1, hHeld.2.2.2.2.2.2.2.2.2.2.2.2.2.2.2.2.1, hHeld.2.2.2.2.2.2.2.2.2.2.2.2.2.2.2.2.2⟩ (fun hHeld => ?_)
            clear hK K
            refine norm_ (a' := ?_) ?_ ?_
            rotate_left
            · show Act.put _ (some 159) _ = _
              simp only [Act.put, List.setIfInBounds_toArray, List.set_cons_zero, List.set_cons_succ, i64_w, i32_w]
              rfl
            refine pu 25 160 (bt 42 67108863) HT_.out ?_
            refine pu 26 161 (bt 42 134217727) HT_.out ?_
            refine pu 27 162 (bt 42 268435455) HT_.out ?_
            refine pu 28 163 (bt 42 536870911) HT_.out ?_
            refine pu 29 164 (bt 42 1073741823) HT_.out ?_
            refine pu 30 165 (bt 42 2147483647) HT_.out ?_
            refine pu 31 166 (bt 42 4294967295) HT_.out ?_
            refine pu 33 168 (bt 42 12884901887) HT_.out ?_
            refine pu 34 169 (bt 42 30064771071) HT_.out ?_
            refine pu 35 170 (bt 42 64424509439) HT_.out ?_
            refine pu 36 171 (bt 42 133143986175) HT_.out ?_
            refine tk 32 167 (bt 42 137438953471) HT_.out HW_.out hHeld rfl rfl (by rintro w' ⟨s0, s1, s2, s3, s4, s5, s6, s7, s8, s9, s10, s11, s12, s13, s14, s15, s16, s17⟩; go_simp; with_reducible rfl) ?_
            refine tk 37 172 (bt 42 274877906943) HT_.out HW_.out hHeld rfl rfl (by rintro w' ⟨s0, s1, s2, s3, s4, s5, s6, s7, s8, s9, s10, s11, s12, s13, s14, s15, s16, s17⟩; go_simp; with_reducible rfl) ?_
            refine one_ (i := 38) (N := some 173) (bt 42 549755813887) rfl rfl (one_of HT_.out (by kernel_rfl)) (by decide) (fun K hK => ?_)
            refine goes_ Try.func28 (by kernel_rfl) rfl #[.slice A336_1 ((rd_T44 t315 x10_3).f1).length c336_1, .int .i64 ((rd_T44 t315 x7_1).f0)] (by rfl) rfl rfl (by (try simp only [List.map_toArray, List.map_cons, List.map_nil]); first | done | rfl) ?_
            with_reducible refine (fettlelaw07_has.calls k4 _ _ ((rd_T44 t315 x10_3).f1) ((rd_T44 t315 x7_1).f0) true _ ?side1 ?side2 A57.out).mono ?_
            (case side1 => repeat (first | exact (by repeat with_reducible first | exact HR341_1.out | refine C_alloc ?_ _ | refine C_drewN ?_ _ | refine C_drew ?_) | (with_reducible refine C_alloc ?_ _) | (with_reducible refine C_drewN ?_ _) | (with_reducible refine C_drew ?_)))
            (case side2 => exact HC341_1.out)
            rintro e w' ⟨rfl, ⟨nd, rfl⟩⟩
            refine ⟨_, rfl, ?_⟩
            refine hK.out _ _ ⟨hHeld.1, hHeld.2.1, hHeld.2.2.1, hHeld.2.2.2.1, hHeld.2.2.2.2.1, hHeld.2.2.2.2.2.1, hHeld.2.2.2.2.2.2.1, hHeld.2.2.2.2.2.2.2.1, hHeld.2.2.2.2.2.2.2.2.1, hHeld.2.2.2.2.2.2.2.2.2.1, hHeld.2.2.2.2.2.2.2.2.2.2.1, hHeld.2.2.2.2.2.2.2.2.2.2.2.1, hHeld.2.2.2.2.2.2.2.2.2.2.2.2.1, hHeld.2.2.2.2.2.2.2.2.2.2.2.2.2.1, hHeld.2.2.2.2.2.2.2.2.2.2.2.2.2.2.1, hHeld.2.2.2.2.2.2.2.2.2.2.2.2.2.2.2.1, hHeld.2.2.2.2.2.2.2.2.2.2.2.2.2.2.2.2.1, hHeld.2.2.2.2.2.2.2.2.2.2.2.2.2.2.2.2.2⟩ (fun hHeld => ?_)
            clear hK K
            refine norm_ (a' := ?_) ?_ ?_
            rotate_left
            · show Act.put _ (some 173) _ = _
              simp only [Act.put, List.setIfInBounds_toArray, List.set_cons_zero, List.set_cons_succ, i64_w, i32_w]
              rfl
            refine pu 39 174 (bt 42 1099511627775) HT_.out ?_
            refine pu 40 175 (bt 42 2199023255551) HT_.out ?_
            refine pu 41 176 (bt 42 4398046511103) HT_.out ?_
            refine done_ (done_of HT_.out (by kernel_rfl)) ?_
            try go_wp2
            go_roundg k4
            case measure => have := HK1.out; have := HK2.out; have := HK3.out; have := HK4.out; omega
            case rel => exact ⟨(wrap64 (x10_3 + 1)), (by first | rfl | (simp; done) | (simp [*]; done)), H', ⟨by have := HK1.out; have := HK2.out; have := HK3.out; have := HK4.out; omega⟩, ⟨by (with_reducible repeat (first | apply S_alloc | apply S_drewN | apply S_drew)); exact HO_5.out⟩, ⟨by (with_reducible repeat (first | apply S_alloc | apply S_drewN | apply S_drew)); exact HO_6.out⟩, ⟨by (with_reducible repeat (first | refine blk_drewN ?_ _ | refine blk_drew ?_ | refine blk_alloc ?_ _)); exact BK312.out⟩, ⟨by repeat (first | (with_reducible exact HR321_1.out) | (with_reducible refine C_alloc ?_ _) | (with_reducible refine C_drewN ?_ _) | (with_reducible refine C_drew ?_) | exact HR321_1.out)⟩, ⟨by repeat (first | (with_reducible exact HR321_2.out) | (with_reducible refine C_alloc ?_ _) | (with_reducible refine C_drewN ?_ _) | (with_reducible refine C_drew ?_) | exact HR321_2.out)⟩, ⟨by repeat (first | (with_reducible first | exact HB.out | apply below_alloc | apply pw_below_drewN | apply below_drew1 | refine below_set ?_ GE312.out) | exact HB.out)⟩⟩
          replace c58 := Bool.eq_false_iff.mpr c58
          subst c58
          have H1 : (some false) = some r := by rw [if_neg (show ¬ (false = true) by decide)] at H; exact H
          clear H
          have H := H1
          clear H1
          obtain rfl := Option.some.inj H
          have p331 : 0 ≤ (x7_1 : Int) := of_decide_eq_true (by with_reducible assumption)
          have q331 : x7_1 < (t315.length : Int) := of_decide_eq_true (by with_reducible assumption)
          obtain ⟨ad331, A331_1, c331_1, A331_2, c331_2, e331, hx331_0, hx331_1, hx331_2, hl331_1, hi331_1, hl331_2, hi331_2⟩ := at_T44 (S_reads' HO_5.out).2.2 x7_1 p331 q331
          obtain rfl : ad321 = ad331 := (by injection e331)
          obtain ⟨ce331, hce331, hMe331, hcc331⟩ := S_get HO_5.out z44 x7_1 p331 (by first | exact q331 | exact of_decide_eq_true (by with_reducible assumption) | (have e_ := (S_reads' HO_5.out).1; omega))
          obtain ⟨ve331_1, ve331_2, rfl, ge331_1, ge331_2⟩ := k44_openM hMe331
          have hv331_1 := hcc331 1 _ rfl
          rw [add_field _ _ 1 (by omega)] at hv331_1
          replace hv331_1 := Option.some.inj (hv331_1.symm.trans hx331_1)
          rw [hv331_1] at ge331_1
          have HL331_1 := Aside0.mk (show Kd.R (Kd.int .i64) 3 _ _ _ _ ((rd_T44 t315 x7_1).f1) from ge331_1)
          clear hv331_1 ge331_1
          have hv331_2 := hcc331 2 _ rfl
          rw [add_field _ _ 2 (by omega)] at hv331_2
          replace hv331_2 := Option.some.inj (hv331_2.symm.trans hx331_2)
          rw [hv331_2] at ge331_2
          have HL331_2 := Aside0.mk (show Kd.R (Kd.int .i64) 3 _ _ _ _ ((rd_T44 t315 x7_1).f2) from ge331_2)
          clear hv331_2 ge331_2
          clear hcc331 hce331
          have HR331_1 := Aside0.mk hi331_1
          have HC331_1 := Aside0.mk hl331_1
          clear hi331_1 hl331_1
          have HR331_2 := Aside0.mk hi331_2
          have HC331_2 := Aside0.mk hl331_2
          clear hi331_2 hl331_2
          replace p331 := eq_true p331
          replace q331 := eq_true q331
          try go_wp2
          have n0_ := Aside0.mk (S_drew HO_5.out)
          have n1_ := Aside0.mk (S_drew HO_6.out)
          have n2_ := Aside0.mk (R_drew HL331_1.out)
          have n3_ := Aside0.mk (R_drew HL331_2.out)
          have n4_ := Aside0.mk (blk_drew BK312.out)
          have n5_ := Aside0.mk (C_drew HR321_1.out)
          have n6_ := Aside0.mk (C_drew HR321_2.out)
          have n7_ := Aside0.mk (C_drew HR331_1.out)
          have n8_ := Aside0.mk (C_drew HR331_2.out)
          have n9_ := Aside0.mk (below_drew1 HB.out)
          clear HO_5
          clear HO_6
          clear HL331_1
          clear HL331_2
          clear BK312
          clear HR321_1
          clear HR321_2
          clear HR331_1
          clear HR331_2
          clear HB
          have HO_5 := n0_
          have HO_6 := n1_
          have HL331_1 := n2_
          have HL331_2 := n3_
          have BK312 := n4_
          have HR321_1 := n5_
          have HR321_2 := n6_
          have HR331_1 := n7_
          have HR331_2 := n8_
          have HB := n9_
          clear n0_ n1_ n2_ n3_ n4_ n5_ n6_ n7_ n8_ n9_
          have p336 : 0 ≤ (x10_3 : Int) := of_decide_eq_true (by with_reducible assumption)
          have q336 : x10_3 < (t315.length : Int) := of_decide_eq_true (by with_reducible assumption)
          obtain ⟨ad336, A336_1, c336_1, A336_2, c336_2, e336, hx336_0, hx336_1, hx336_2, hl336_1, hi336_1, hl336_2, hi336_2⟩ := at_T44 (S_reads' HO_5.out).2.2 x10_3 p336 q336
          obtain rfl : ad321 = ad336 := (by injection e336)
          obtain ⟨ce336, hce336, hMe336, hcc336⟩ := S_get HO_5.out z44 x10_3 p336 (by first | exact q336 | exact of_decide_eq_true (by with_reducible assumption) | (have e_ := (S_reads' HO_5.out).1; omega))
          obtain ⟨ve336_1, ve336_2, rfl, ge336_1, ge336_2⟩ := k44_openM hMe336
          have hv336_1 := hcc336 1 _ rfl
          rw [add_field _ _ 1 (by omega)] at hv336_1
          replace hv336_1 := Option.some.inj (hv336_1.symm.trans hx336_1)
          rw [hv336_1] at ge336_1
          have HL336_1 := Aside0.mk (show Kd.R (Kd.int .i64) 3 _ _ _ _ ((rd_T44 t315 x10_3).f1) from ge336_1)
          clear hv336_1 ge336_1
          have hv336_2 := hcc336 2 _ rfl
          rw [add_field _ _ 2 (by omega)] at hv336_2
          replace hv336_2 := Option.some.inj (hv336_2.symm.trans hx336_2)
          rw [hv336_2] at ge336_2
          have HL336_2 := Aside0.mk (show Kd.R (Kd.int .i64) 3 _ _ _ _ ((rd_T44 t315 x10_3).f2) from ge336_2)
          clear hv336_2 ge336_2
          clear hcc336 hce336
          have HR336_1 := Aside0.mk hi336_1
          have HC336_1 := Aside0.mk hl336_1
          clear hi336_1 hl336_1
          have HR336_2 := Aside0.mk hi336_2
          have HC336_2 := Aside0.mk hl336_2
          clear hi336_2 hl336_2
          replace p336 := eq_true p336
          replace q336 := eq_true q336
          have p337 : 0 ≤ (x7_1 : Int) := of_decide_eq_true (by with_reducible assumption)
          have q337 : x7_1 < (t315.length : Int) := of_decide_eq_true (by with_reducible assumption)
          obtain ⟨ad337, A337_1, c337_1, A337_2, c337_2, e337, hx337_0, hx337_1, hx337_2, hl337_1, hi337_1, hl337_2, hi337_2⟩ := at_T44 (S_reads' HO_5.out).2.2 x7_1 p337 q337
          obtain rfl : ad321 = ad337 := (by injection e337)
          obtain ⟨ce337, hce337, hMe337, hcc337⟩ := S_get HO_5.out z44 x7_1 p337 (by first | exact q337 | exact of_decide_eq_true (by with_reducible assumption) | (have e_ := (S_reads' HO_5.out).1; omega))
          obtain ⟨ve337_1, ve337_2, rfl, ge337_1, ge337_2⟩ := k44_openM hMe337
          have hv337_1 := hcc337 1 _ rfl
          rw [add_field _ _ 1 (by omega)] at hv337_1
          replace hv337_1 := Option.some.inj (hv337_1.symm.trans hx337_1)
          rw [hv337_1] at ge337_1
          have HL337_1 := Aside0.mk (show Kd.R (Kd.int .i64) 3 _ _ _ _ ((rd_T44 t315 x7_1).f1) from ge337_1)
          clear hv337_1 ge337_1
          have hv337_2 := hcc337 2 _ rfl
          rw [add_field _ _ 2 (by omega)] at hv337_2
          replace hv337_2 := Option.some.inj (hv337_2.symm.trans hx337_2)
          rw [hv337_2] at ge337_2
          have HL337_2 := Aside0.mk (show Kd.R (Kd.int .i64) 3 _ _ _ _ ((rd_T44 t315 x7_1).f2) from ge337_2)
          clear hv337_2 ge337_2
          clear hcc337 hce337
          have HR337_1 := Aside0.mk hi337_1
          have HC337_1 := Aside0.mk hl337_1
          clear hi337_1 hl337_1
          have HR337_2 := Aside0.mk hi337_2
          have HC337_2 := Aside0.mk hl337_2
          clear hi337_2 hl337_2
          replace p337 := eq_true p337
          replace q337 := eq_true q337
          have hx338_0 := hx337_0
          have hx338_1 := hx337_1
          have hx338_2 := hx337_2
          have HL338_1 := HL337_1
          have HL338_2 := HL337_2
          have HR338_1 := HR337_1
          have HR338_2 := HR337_2
          have HC338_1 := HC337_1
          have hx339_0 := hx336_0
          have hx339_1 := hx336_1
          have hx339_2 := hx336_2
          have HL339_1 := HL336_1
          have HL339_2 := HL336_2
          have HR339_1 := HR336_1
          have HR339_2 := HR336_2
          have hx341_0 := hx336_0
          have hx341_1 := hx336_1
          have hx341_2 := hx336_2
          have HL341_1 := HL336_1
          have HL341_2 := HL336_2
          have HR341_1 := HR336_1
          have HR341_2 := HR336_2
          have HC341_1 := HC336_1
          have hx342_0 := hx337_0
          have hx342_1 := hx337_1
          have hx342_2 := hx337_2
          have HL342_1 := HL337_1
          have HL342_2 := HL337_2
          have HR342_1 := HR337_1
          have HR342_2 := HR337_2
          refine start_ (n := 42) (S := fun w' => w'.cell? (ad321.add ((x10_3).toNat * 3)) = some (.int .i64 ((rd_T44 t315 x10_3).f0)) ∧ w'.cell? ⟨(ad321.add ((x10_3).toNat * 3)).block, (ad321.add ((x10_3).toNat * 3)).off + 1, none⟩ = some (.slice A336_1 ((rd_T44 t315 x10_3).f1).length c336_1) ∧ w'.cell? ⟨(ad321.add ((x10_3).toNat * 3)).block, (ad321.add ((x10_3).toNat * 3)).off + 2, none⟩ = some (.slice A336_2 ((rd_T44 t315 x10_3).f2).length c336_2) ∧ w'.cell? (ad321.add ((x7_1).toNat * 3)) = some (.int .i64 ((rd_T44 t315 x7_1).f0)) ∧ w'.cell? ⟨(ad321.add ((x7_1).toNat * 3)).block, (ad321.add ((x7_1).toNat * 3)).off + 1, none⟩ = some (.slice A337_1 ((rd_T44 t315 x7_1).f1).length c337_1) ∧ w'.cell? ⟨(ad321.add ((x7_1).toNat * 3)).block, (ad321.add ((x7_1).toNat * 3)).off + 2, none⟩ = some (.slice A337_2 ((rd_T44 t315 x7_1).f2).length c337_2) ∧ w'.cell? (ad321.add ((x7_1).toNat * 3)) = some (.int .i64 ((rd_T44 t315 x7_1).f0)) ∧ w'.cell? ⟨(ad321.add ((x7_1).toNat * 3)).block, (ad321.add ((x7_1).toNat * 3)).off + 1, none⟩ = some (.slice A337_1 ((rd_T44 t315 x7_1).f1).length c337_1) ∧ w'.cell? ⟨(ad321.add ((x7_1).toNat * 3)).block, (ad321.add ((x7_1).toNat * 3)).off + 2, none⟩ = some (.slice A337_2 ((rd_T44 t315 x7_1).f2).length c337_2) ∧ w'.cell? (ad321.add ((x10_3).toNat * 3)) = some (.int .i64 ((rd_T44 t315 x10_3).f0)) ∧ w'.cell? ⟨(ad321.add ((x10_3).toNat * 3)).block, (ad321.add ((x10_3).toNat * 3)).off + 1, none⟩ = some (.slice A336_1 ((rd_T44 t315 x10_3).f1).length c336_1) ∧ w'.cell? ⟨(ad321.add ((x10_3).toNat * 3)).block, (ad321.add ((x10_3).toNat * 3)).off + 2, none⟩ = some (.slice A336_2 ((rd_T44 t315 x10_3).f2).length c336_2) ∧ w'.cell? (ad321.add ((x10_3).toNat * 3)) = some (.int .i64 ((rd_T44 t315 x10_3).f0)) ∧ w'.cell? ⟨(ad321.add ((x10_3).toNat * 3)).block, (ad321.add ((x10_3).toNat * 3)).off + 1, none⟩ = some (.slice A336_1 ((rd_T44 t315 x10_3).f1).length c336_1) ∧ w'.cell? ⟨(ad321.add ((x10_3).toNat * 3)).block, (ad321.add ((x10_3).toNat * 3)).off + 2, none⟩ = some (.slice A336_2 ((rd_T44 t315 x10_3).f2).length c336_2) ∧ w'.cell? (ad321.add ((x7_1).toNat * 3)) = some (.int .i64 ((rd_T44 t315 x7_1).f0)) ∧ w'.cell? ⟨(ad321.add ((x7_1).toNat * 3)).block, (ad321.add ((x7_1).toNat * 3)).off + 1, none⟩ = some (.slice A337_1 ((rd_T44 t315 x7_1).f1).length c337_1) ∧ w'.cell? ⟨(ad321.add ((x7_1).toNat * 3)).block, (ad321.add ((x7_1).toNat * 3)).off + 2, none⟩ = some (.slice A337_2 ((rd_T44 t315 x7_1).f2).length c337_2)) (ds := []) #[false, false, false, false, false, false, false, false, false, false, false, false, false, false, false, false, false, false, false, false, false, false, false, false, false, false, false, false, false, false, false, false, false, false, false, false, false, false, false, false, false, false] (by kernel_rfl) rfl rfl ⟨hx336_0, hx336_1, hx336_2, hx337_0, hx337_1, hx337_2, hx338_0, hx338_1, hx338_2, hx339_0, hx339_1, hx339_2, hx341_0, hx341_1, hx341_2, hx342_0, hx342_1, hx342_2⟩ (fun hHeld => ?_); refine with_tabW fettlelaw07_LoopsLie.tab25 fettlelaw07_LoopsLie.bits25 (fun HT_ HW_ => ?_)
          generalize wr.drew = w60 at HO_5 HO_6 HL331_1 HL331_2 BK312 HR321_1 HR321_2 HR331_1 HR331_2 HB HL336_1 HL336_2 HL337_1 HL337_2 HL338_1 HL338_2 HL339_1 HL339_2 HL341_1 HL341_2 HL342_1 HL342_2 HR336_1 HR336_2 HR337_1 HR337_2 HR338_1 HR338_2 HR339_1 HR339_2 HR341_1 HR341_2 HR342_1 HR342_2 hx336_0 hx336_1 hx336_2 hx337_0 hx337_1 hx337_2 hx338_0 hx338_1 hx338_2 hx339_0 hx339_1 hx339_2 hx341_0 hx341_1 hx341_2 hx342_0 hx342_1 hx342_2 hHeld ⊢
          refine pu 0 135 (bt 42 1) HT_.out ?_
          refine pu 1 136 (bt 42 3) HT_.out ?_
          refine pu 2 137 (bt 42 7) HT_.out ?_
          refine pu 3 138 (bt 42 15) HT_.out ?_
          refine pu 5 140 (bt 42 47) HT_.out ?_
          refine pu 6 141 (bt 42 111) HT_.out ?_
          refine pu 7 142 (bt 42 239) HT_.out ?_
          refine pu 8 143 (bt 42 495) HT_.out ?_
          refine tk 4 139 (bt 42 511) HT_.out HW_.out hHeld rfl rfl (by rintro w' ⟨s0, s1, s2, s3, s4, s5, s6, s7, s8, s9, s10, s11, s12, s13, s14, s15, s16, s17⟩; go_simp; with_reducible rfl) ?_
          refine tk 9 144 (bt 42 1023) HT_.out HW_.out hHeld rfl rfl (by rintro w' ⟨s0, s1, s2, s3, s4, s5, s6, s7, s8, s9, s10, s11, s12, s13, s14, s15, s16, s17⟩; go_simp; with_reducible rfl) ?_
          refine pu 10 145 (bt 42 2047) HT_.out ?_
          refine pu 11 146 (bt 42 4095) HT_.out ?_
          refine pu 12 147 (bt 42 8191) HT_.out ?_
          refine pu 13 148 (bt 42 16383) HT_.out ?_
          refine pu 14 149 (bt 42 32767) HT_.out ?_
          refine pu 15 150 (bt 42 65535) HT_.out ?_
          refine pu 16 151 (bt 42 131071) HT_.out ?_
          refine pu 17 152 (bt 42 262143) HT_.out ?_
          refine pu 19 154 (bt 42 786431) HT_.out ?_
          refine pu 20 155 (bt 42 1835007) HT_.out ?_
          refine pu 21 156 (bt 42 3932159) HT_.out ?_
          refine pu 22 157 (bt 42 8126463) HT_.out ?_
          refine tk 18 153 (bt 42 8388607) HT_.out HW_.out hHeld rfl rfl (by rintro w' ⟨s0, s1, s2, s3, s4, s5, s6, s7, s8, s9, s10, s11, s12, s13, s14, s15, s16, s17⟩; go_simp; with_reducible rfl) ?_
          refine tk 23 158 (bt 42 16777215) HT_.out HW_.out hHeld rfl rfl (by rintro w' ⟨s0, s1, s2, s3, s4, s5, s6, s7, s8, s9, s10, s11, s12, s13, s14, s15, s16, s17⟩; go_simp; with_reducible rfl) ?_
          refine one_ (i := 24) (N := some 159) (bt 42 33554431) rfl rfl (one_of HT_.out (by kernel_rfl)) (by decide) (fun K hK => ?_)
          refine goes_ Try.func28 (by kernel_rfl) rfl #[.slice A337_1 ((rd_T44 t315 x7_1).f1).length c337_1, .int .i64 ((rd_T44 t315 x10_3).f0)] (by rfl) rfl rfl (by (try simp only [List.map_toArray, List.map_cons, List.map_nil]); first | done | rfl) ?_
          with_reducible refine (fettlelaw07_has.calls k4 _ _ ((rd_T44 t315 x7_1).f1) ((rd_T44 t315 x10_3).f0) false _ ?side1 ?side2 A54.out).mono ?_
          (case side1 => repeat (first | exact (by repeat with_reducible first | exact HR338_1.out | refine C_alloc ?_ _ | refine C_drewN ?_ _ | refine C_drew ?_) | (with_reducible refine C_alloc ?_ _) | (with_reducible refine C_drewN ?_ _) | (with_reducible refine C_drew ?_)))
          (case side2 => exact HC338_1.out)
          rintro e w' ⟨rfl, ⟨nd, rfl⟩⟩
          refine ⟨_, rfl, ?_⟩
          refine hK.out _ _ ⟨hHeld.1, hHeld.2.1, hHeld.2.2.1, hHeld.2.2.2.1, hHeld.2.2.2.2.1, hHeld.2.2.2.2.2.1, hHeld.2.2.2.2.2.2.1, hHeld.2.2.2.2.2.2.2.1, hHeld.2.2.2.2.2.2.2.2.1, hHeld.2.2.2.2.2.2.2.2.2.1, hHeld.2.2.2.2.2.2.2.2.2.2.1, hHeld.2.2.2.2.2.2.2.2.2.2.2.1, hHeld.2.2.2.2.2.2.2.2.2.2.2.2.1, hHeld.2.2.2.2.2.2.2.2.2.2.2.2.2.1, hHeld.2.2.2.2.2.2.2.2.2.2.2.2.2.2.1, hHeld.2.2.2.2.2.2.2.2.2.2.2.2.2.2.2.1, hHeld.2.2.2.2.2.2.2.2.2.2.2.2.2.2.2.2.1, hHeld.2.2.2.2.2.2.2.2.2.2.2.2.2.2.2.2.2⟩ (fun hHeld => ?_)
          clear hK K
          refine norm_ (a' := ?_) ?_ ?_
          rotate_left
          · show Act.put _ (some 159) _ = _
            simp only [Act.put, List.setIfInBounds_toArray, List.set_cons_zero, List.set_cons_succ, i64_w, i32_w]
            rfl
          refine pu 25 160 (bt 42 67108863) HT_.out ?_
          refine pu 26 161 (bt 42 134217727) HT_.out ?_
          refine pu 27 162 (bt 42 268435455) HT_.out ?_
          refine pu 28 163 (bt 42 536870911) HT_.out ?_
          refine pu 29 164 (bt 42 1073741823) HT_.out ?_
          refine pu 30 165 (bt 42 2147483647) HT_.out ?_
          refine pu 31 166 (bt 42 4294967295) HT_.out ?_
          refine pu 33 168 (bt 42 12884901887) HT_.out ?_
          refine pu 34 169 (bt 42 30064771071) HT_.out ?_
          refine pu 35 170 (bt 42 64424509439) HT_.out ?_
          refine pu 36 171 (bt 42 133143986175) HT_.out ?_
          refine tk 32 167 (bt 42 137438953471) HT_.out HW_.out hHeld rfl rfl (by rintro w' ⟨s0, s1, s2, s3, s4, s5, s6, s7, s8, s9, s10, s11, s12, s13, s14, s15, s16, s17⟩; go_simp; with_reducible rfl) ?_
          refine tk 37 172 (bt 42 274877906943) HT_.out HW_.out hHeld rfl rfl (by rintro w' ⟨s0, s1, s2, s3, s4, s5, s6, s7, s8, s9, s10, s11, s12, s13, s14, s15, s16, s17⟩; go_simp; with_reducible rfl) ?_
          refine one_ (i := 38) (N := some 173) (bt 42 549755813887) rfl rfl (one_of HT_.out (by kernel_rfl)) (by decide) (fun K hK => ?_)
          refine goes_ Try.func28 (by kernel_rfl) rfl #[.slice A336_1 ((rd_T44 t315 x10_3).f1).length c336_1, .int .i64 ((rd_T44 t315 x7_1).f0)] (by rfl) rfl rfl (by (try simp only [List.map_toArray, List.map_cons, List.map_nil]); first | done | rfl) ?_
          with_reducible refine (fettlelaw07_has.calls k4 _ _ ((rd_T44 t315 x10_3).f1) ((rd_T44 t315 x7_1).f0) false _ ?side1 ?side2 A57.out).mono ?_
          (case side1 => repeat (first | exact (by repeat with_reducible first | exact HR341_1.out | refine C_alloc ?_ _ | refine C_drewN ?_ _ | refine C_drew ?_) | (with_reducible refine C_alloc ?_ _) | (with_reducible refine C_drewN ?_ _) | (with_reducible refine C_drew ?_)))
          (case side2 => exact HC341_1.out)
          rintro e w' ⟨rfl, ⟨nd, rfl⟩⟩
          refine ⟨_, rfl, ?_⟩
          refine hK.out _ _ ⟨hHeld.1, hHeld.2.1, hHeld.2.2.1, hHeld.2.2.2.1, hHeld.2.2.2.2.1, hHeld.2.2.2.2.2.1, hHeld.2.2.2.2.2.2.1, hHeld.2.2.2.2.2.2.2.1, hHeld.2.2.2.2.2.2.2.2.1, hHeld.2.2.2.2.2.2.2.2.2.1, hHeld.2.2.2.2.2.2.2.2.2.2.1, hHeld.2.2.2.2.2.2.2.2.2.2.2.1, hHeld.2.2.2.2.2.2.2.2.2.2.2.2.1, hHeld.2.2.2.2.2.2.2.2.2.2.2.2.2.1, hHeld.2.2.2.2.2.2.2.2.2.2.2.2.2.2.1, hHeld.2.2.2.2.2.2.2.2.2.2.2.2.2.2.2.1, hHeld.2.2.2.2.2.2.2.2.2.2.2.2.2.2.2.2.1, hHeld.2.2.2.2.2.2.2.2.2.2.2.2.2.2.2.2.2⟩ (fun hHeld => ?_)
          clear hK K
          refine norm_ (a' := ?_) ?_ ?_
          rotate_left
          · show Act.put _ (some 173) _ = _
            simp only [Act.put, List.setIfInBounds_toArray, List.set_cons_zero, List.set_cons_succ, i64_w, i32_w]
            rfl
          refine pu 39 174 (bt 42 1099511627775) HT_.out ?_
          refine pu 40 175 (bt 42 2199023255551) HT_.out ?_
          refine pu 41 176 (bt 42 4398046511103) HT_.out ?_
          refine done_ (done_of HT_.out (by kernel_rfl)) ?_
          try go_wp2
          go_ret
          exact ⟨by first | rfl | (simp [errW_none, errW_some] <;> rfl) | (simp [*, errW_none, errW_some] <;> rfl), by repeat (first | (with_reducible first | exact HB.out | apply below_alloc | apply pw_below_drewN | apply below_drew1 | refine below_set ?_ GE312.out) | exact HB.out)⟩
        replace c53 := Bool.eq_false_iff.mpr c53
        subst c53
        have H1 : (fettlelaw07_LoopsLie.l2 k4 t313 t315 t318 x7_1 (wrap64 (x10_3 + 1))) = some r := by rw [if_neg (show ¬ (false = true) by decide)] at H; exact H
        clear H
        have H := H1
        clear H1
        have H' := Aside0.mk H
        clear H
        have p331 : 0 ≤ (x7_1 : Int) := of_decide_eq_true (by with_reducible assumption)
        have q331 : x7_1 < (t315.length : Int) := of_decide_eq_true (by with_reducible assumption)
        obtain ⟨ad331, A331_1, c331_1, A331_2, c331_2, e331, hx331_0, hx331_1, hx331_2, hl331_1, hi331_1, hl331_2, hi331_2⟩ := at_T44 (S_reads' HO_5.out).2.2 x7_1 p331 q331
        obtain rfl : ad321 = ad331 := (by injection e331)
        obtain ⟨ce331, hce331, hMe331, hcc331⟩ := S_get HO_5.out z44 x7_1 p331 (by first | exact q331 | exact of_decide_eq_true (by with_reducible assumption) | (have e_ := (S_reads' HO_5.out).1; omega))
        obtain ⟨ve331_1, ve331_2, rfl, ge331_1, ge331_2⟩ := k44_openM hMe331
        have hv331_1 := hcc331 1 _ rfl
        rw [add_field _ _ 1 (by omega)] at hv331_1
        replace hv331_1 := Option.some.inj (hv331_1.symm.trans hx331_1)
        rw [hv331_1] at ge331_1
        have HL331_1 := Aside0.mk (show Kd.R (Kd.int .i64) 3 _ _ _ _ ((rd_T44 t315 x7_1).f1) from ge331_1)
        clear hv331_1 ge331_1
        have hv331_2 := hcc331 2 _ rfl
        rw [add_field _ _ 2 (by omega)] at hv331_2
        replace hv331_2 := Option.some.inj (hv331_2.symm.trans hx331_2)
        rw [hv331_2] at ge331_2
        have HL331_2 := Aside0.mk (show Kd.R (Kd.int .i64) 3 _ _ _ _ ((rd_T44 t315 x7_1).f2) from ge331_2)
        clear hv331_2 ge331_2
        clear hcc331 hce331
        have HR331_1 := Aside0.mk hi331_1
        have HC331_1 := Aside0.mk hl331_1
        clear hi331_1 hl331_1
        have HR331_2 := Aside0.mk hi331_2
        have HC331_2 := Aside0.mk hl331_2
        clear hi331_2 hl331_2
        replace p331 := eq_true p331
        replace q331 := eq_true q331
        try go_wp2
        have n0_ := Aside0.mk (S_drew HO_5.out)
        have n1_ := Aside0.mk (S_drew HO_6.out)
        have n2_ := Aside0.mk (R_drew HL331_1.out)
        have n3_ := Aside0.mk (R_drew HL331_2.out)
        have n4_ := Aside0.mk (blk_drew BK312.out)
        have n5_ := Aside0.mk (C_drew HR321_1.out)
        have n6_ := Aside0.mk (C_drew HR321_2.out)
        have n7_ := Aside0.mk (C_drew HR331_1.out)
        have n8_ := Aside0.mk (C_drew HR331_2.out)
        have n9_ := Aside0.mk (below_drew1 HB.out)
        clear HO_5
        clear HO_6
        clear HL331_1
        clear HL331_2
        clear BK312
        clear HR321_1
        clear HR321_2
        clear HR331_1
        clear HR331_2
        clear HB
        have HO_5 := n0_
        have HO_6 := n1_
        have HL331_1 := n2_
        have HL331_2 := n3_
        have BK312 := n4_
        have HR321_1 := n5_
        have HR321_2 := n6_
        have HR331_1 := n7_
        have HR331_2 := n8_
        have HB := n9_
        clear n0_ n1_ n2_ n3_ n4_ n5_ n6_ n7_ n8_ n9_
        have p336 : 0 ≤ (x10_3 : Int) := of_decide_eq_true (by with_reducible assumption)
        have q336 : x10_3 < (t315.length : Int) := of_decide_eq_true (by with_reducible assumption)
        obtain ⟨ad336, A336_1, c336_1, A336_2, c336_2, e336, hx336_0, hx336_1, hx336_2, hl336_1, hi336_1, hl336_2, hi336_2⟩ := at_T44 (S_reads' HO_5.out).2.2 x10_3 p336 q336
        obtain rfl : ad321 = ad336 := (by injection e336)
        obtain ⟨ce336, hce336, hMe336, hcc336⟩ := S_get HO_5.out z44 x10_3 p336 (by first | exact q336 | exact of_decide_eq_true (by with_reducible assumption) | (have e_ := (S_reads' HO_5.out).1; omega))
        obtain ⟨ve336_1, ve336_2, rfl, ge336_1, ge336_2⟩ := k44_openM hMe336
        have hv336_1 := hcc336 1 _ rfl
        rw [add_field _ _ 1 (by omega)] at hv336_1
        replace hv336_1 := Option.some.inj (hv336_1.symm.trans hx336_1)
        rw [hv336_1] at ge336_1
        have HL336_1 := Aside0.mk (show Kd.R (Kd.int .i64) 3 _ _ _ _ ((rd_T44 t315 x10_3).f1) from ge336_1)
        clear hv336_1 ge336_1
        have hv336_2 := hcc336 2 _ rfl
        rw [add_field _ _ 2 (by omega)] at hv336_2
        replace hv336_2 := Option.some.inj (hv336_2.symm.trans hx336_2)
        rw [hv336_2] at ge336_2
        have HL336_2 := Aside0.mk (show Kd.R (Kd.int .i64) 3 _ _ _ _ ((rd_T44 t315 x10_3).f2) from ge336_2)
        clear hv336_2 ge336_2
        clear hcc336 hce336
        have HR336_1 := Aside0.mk hi336_1
        have HC336_1 := Aside0.mk hl336_1
        clear hi336_1 hl336_1
        have HR336_2 := Aside0.mk hi336_2
        have HC336_2 := Aside0.mk hl336_2
        clear hi336_2 hl336_2
        replace p336 := eq_true p336
        replace q336 := eq_true q336
        have p337 : 0 ≤ (x7_1 : Int) := of_decide_eq_true (by with_reducible assumption)
        have q337 : x7_1 < (t315.length : Int) := of_decide_eq_true (by with_reducible assumption)
        obtain ⟨ad337, A337_1, c337_1, A337_2, c337_2, e337, hx337_0, hx337_1, hx337_2, hl337_1, hi337_1, hl337_2, hi337_2⟩ := at_T44 (S_reads' HO_5.out).2.2 x7_1 p337 q337
        obtain rfl : ad321 = ad337 := (by injection e337)
        obtain ⟨ce337, hce337, hMe337, hcc337⟩ := S_get HO_5.out z44 x7_1 p337 (by first | exact q337 | exact of_decide_eq_true (by with_reducible assumption) | (have e_ := (S_reads' HO_5.out).1; omega))
        obtain ⟨ve337_1, ve337_2, rfl, ge337_1, ge337_2⟩ := k44_openM hMe337
        have hv337_1 := hcc337 1 _ rfl
        rw [add_field _ _ 1 (by omega)] at hv337_1
        replace hv337_1 := Option.some.inj (hv337_1.symm.trans hx337_1)
        rw [hv337_1] at ge337_1
        have HL337_1 := Aside0.mk (show Kd.R (Kd.int .i64) 3 _ _ _ _ ((rd_T44 t315 x7_1).f1) from ge337_1)
        clear hv337_1 ge337_1
        have hv337_2 := hcc337 2 _ rfl
        rw [add_field _ _ 2 (by omega)] at hv337_2
        replace hv337_2 := Option.some.inj (hv337_2.symm.trans hx337_2)
        rw [hv337_2] at ge337_2
        have HL337_2 := Aside0.mk (show Kd.R (Kd.int .i64) 3 _ _ _ _ ((rd_T44 t315 x7_1).f2) from ge337_2)
        clear hv337_2 ge337_2
        clear hcc337 hce337
        have HR337_1 := Aside0.mk hi337_1
        have HC337_1 := Aside0.mk hl337_1
        clear hi337_1 hl337_1
        have HR337_2 := Aside0.mk hi337_2
        have HC337_2 := Aside0.mk hl337_2
        clear hi337_2 hl337_2
        replace p337 := eq_true p337
        replace q337 := eq_true q337
        refine start_ (n := 42) (S := fun w' => w'.cell? (ad321.add ((x10_3).toNat * 3)) = some (.int .i64 ((rd_T44 t315 x10_3).f0)) ∧ w'.cell? ⟨(ad321.add ((x10_3).toNat * 3)).block, (ad321.add ((x10_3).toNat * 3)).off + 1, none⟩ = some (.slice A336_1 ((rd_T44 t315 x10_3).f1).length c336_1) ∧ w'.cell? ⟨(ad321.add ((x10_3).toNat * 3)).block, (ad321.add ((x10_3).toNat * 3)).off + 2, none⟩ = some (.slice A336_2 ((rd_T44 t315 x10_3).f2).length c336_2) ∧ w'.cell? (ad321.add ((x7_1).toNat * 3)) = some (.int .i64 ((rd_T44 t315 x7_1).f0)) ∧ w'.cell? ⟨(ad321.add ((x7_1).toNat * 3)).block, (ad321.add ((x7_1).toNat * 3)).off + 1, none⟩ = some (.slice A337_1 ((rd_T44 t315 x7_1).f1).length c337_1) ∧ w'.cell? ⟨(ad321.add ((x7_1).toNat * 3)).block, (ad321.add ((x7_1).toNat * 3)).off + 2, none⟩ = some (.slice A337_2 ((rd_T44 t315 x7_1).f2).length c337_2)) (ds := []) #[false, false, false, false, false, false, false, false, false, false, false, false, false, false, false, false, false, false, false, false, false, false, false, false, false, false, false, false, false, false, false, false, false, false, false, false, false, false, false, false, false, false] (by kernel_rfl) rfl rfl ⟨hx336_0, hx336_1, hx336_2, hx337_0, hx337_1, hx337_2⟩ (fun hHeld => ?_); refine with_tabW fettlelaw07_LoopsLie.tab25 fettlelaw07_LoopsLie.bits25 (fun HT_ HW_ => ?_)
        generalize wr.drew = w61 at HO_5 HO_6 HL331_1 HL331_2 BK312 HR321_1 HR321_2 HR331_1 HR331_2 HB HL336_1 HL336_2 HL337_1 HL337_2 HR336_1 HR336_2 HR337_1 HR337_2 hx336_0 hx336_1 hx336_2 hx337_0 hx337_1 hx337_2 hHeld ⊢
        refine pu 0 135 (bt 42 1) HT_.out ?_
        refine pu 1 136 (bt 42 3) HT_.out ?_
        refine pu 2 137 (bt 42 7) HT_.out ?_
        refine pu 3 138 (bt 42 15) HT_.out ?_
        refine pu 5 140 (bt 42 47) HT_.out ?_
        refine pu 6 141 (bt 42 111) HT_.out ?_
        refine pu 7 142 (bt 42 239) HT_.out ?_
        refine pu 8 143 (bt 42 495) HT_.out ?_
        refine tk 4 139 (bt 42 511) HT_.out HW_.out hHeld rfl rfl (by rintro w' ⟨s0, s1, s2, s3, s4, s5⟩; go_simp; with_reducible rfl) ?_
        refine tk 9 144 (bt 42 1023) HT_.out HW_.out hHeld rfl rfl (by rintro w' ⟨s0, s1, s2, s3, s4, s5⟩; go_simp; with_reducible rfl) ?_
        refine pu 10 145 (bt 42 2047) HT_.out ?_
        refine pu 11 146 (bt 42 4095) HT_.out ?_
        refine pu 12 147 (bt 42 8191) HT_.out ?_
        refine pu 13 148 (bt 42 16383) HT_.out ?_
        refine pn 14 149 (bt 42 32767) HT_.out ?_
        refine pn 15 150 (bt 42 65535) HT_.out ?_
        refine pn 16 151 (bt 42 131071) HT_.out ?_
        refine pn 17 152 (bt 42 262143) HT_.out ?_
        refine pn 18 153 (bt 42 524287) HT_.out ?_
        refine pn 19 154 (bt 42 1048575) HT_.out ?_
        refine pn 20 155 (bt 42 2097151) HT_.out ?_
        refine pn 21 156 (bt 42 4194303) HT_.out ?_
        refine pn 22 157 (bt 42 8388607) HT_.out ?_
        refine pn 23 158 (bt 42 16777215) HT_.out ?_
        refine pn 24 159 (bt 42 33554431) HT_.out ?_
        refine pn 25 160 (bt 42 67108863) HT_.out ?_
        refine pu 26 161 (bt 42 134217727) HT_.out ?_
        refine pu 27 162 (bt 42 268435455) HT_.out ?_
        refine pn 28 163 (bt 42 536870911) HT_.out ?_
        refine pn 29 164 (bt 42 1073741823) HT_.out ?_
        refine pn 30 165 (bt 42 2147483647) HT_.out ?_
        refine pn 31 166 (bt 42 4294967295) HT_.out ?_
        refine pn 32 167 (bt 42 8589934591) HT_.out ?_
        refine pn 33 168 (bt 42 17179869183) HT_.out ?_
        refine pn 34 169 (bt 42 34359738367) HT_.out ?_
        refine pn 35 170 (bt 42 68719476735) HT_.out ?_
        refine pn 36 171 (bt 42 137438953471) HT_.out ?_
        refine pn 37 172 (bt 42 274877906943) HT_.out ?_
        refine pn 38 173 (bt 42 549755813887) HT_.out ?_
        refine pn 39 174 (bt 42 1099511627775) HT_.out ?_
        refine pu 40 175 (bt 42 2199023255551) HT_.out ?_
        refine pu 41 176 (bt 42 4398046511103) HT_.out ?_
        refine done_ (done_of HT_.out (by kernel_rfl)) ?_
        try go_wp2
        go_roundg k4
        case measure => have := HK1.out; have := HK2.out; have := HK3.out; have := HK4.out; omega
        case rel => exact ⟨(wrap64 (x10_3 + 1)), (by first | rfl | (simp; done) | (simp [*]; done)), H', ⟨by have := HK1.out; have := HK2.out; have := HK3.out; have := HK4.out; omega⟩, ⟨by (with_reducible repeat (first | apply S_alloc | apply S_drewN | apply S_drew)); exact HO_5.out⟩, ⟨by (with_reducible repeat (first | apply S_alloc | apply S_drewN | apply S_drew)); exact HO_6.out⟩, ⟨by (with_reducible repeat (first | refine blk_drewN ?_ _ | refine blk_drew ?_ | refine blk_alloc ?_ _)); exact BK312.out⟩, ⟨by repeat (first | (with_reducible exact HR321_1.out) | (with_reducible refine C_alloc ?_ _) | (with_reducible refine C_drewN ?_ _) | (with_reducible refine C_drew ?_) | exact HR321_1.out)⟩, ⟨by repeat (first | (with_reducible exact HR321_2.out) | (with_reducible refine C_alloc ?_ _) | (with_reducible refine C_drewN ?_ _) | (with_reducible refine C_drew ?_) | exact HR321_2.out)⟩, ⟨by repeat (first | (with_reducible first | exact HB.out | apply below_alloc | apply pw_below_drewN | apply below_drew1 | refine below_set ?_ GE312.out) | exact HB.out)⟩⟩
      rw [if_neg c38] at H
      have c38b0 : decide (x10_3 < x7_1) = false := decide_eq_false c38
      clear c38
      have H' := Aside0.mk H
      clear H
      go_wp2
      go_roundg k3
      case measure => have := HK1.out; have := HK2.out; have := HK3.out; omega
      case rel => exact ⟨(wrap64 (x7_1 + 1)), (by first | rfl | (simp; done) | (simp [*]; done)), H', ⟨by have := HK1.out; have := HK2.out; have := HK3.out; omega⟩, ⟨by (with_reducible repeat (first | apply S_alloc | apply S_drewN | apply S_drew)); exact HO_5.out⟩, ⟨by (with_reducible repeat (first | apply S_alloc | apply S_drewN | apply S_drew)); exact HO_6.out⟩, ⟨by (with_reducible repeat (first | refine blk_drewN ?_ _ | refine blk_drew ?_ | refine blk_alloc ?_ _)); exact BK312.out⟩, ⟨by repeat (first | (with_reducible first | exact HB.out | apply below_alloc | apply pw_below_drewN | apply below_drew1 | refine below_set ?_ GE312.out) | exact HB.out)⟩⟩
    rw [if_neg c15] at H
    have c15b0 : decide (x7_1 < (t315.length : Int)) = false := decide_eq_false c15
    clear c15
    obtain rfl := Option.some.inj H
    obtain ⟨Ao62, co62, eo62⟩ := Kd.S_slice HO_5.out
    subst eo62
    go_wp2
    go_ret
    exact ⟨by first | rfl | (simp [errW_none, errW_some] <;> rfl) | (simp [*, errW_none, errW_some] <;> rfl), by repeat (first | (with_reducible first | exact HB.out | apply below_alloc | apply pw_below_drewN | apply below_drew1 | refine below_set ?_ GE312.out) | exact HB.out)⟩
  replace c4 := Bool.eq_false_iff.mpr c4
  subst c4
  have H1 : (some t313) = some r := by rw [if_neg (show ¬ (false = true) by decide)] at H; exact H
  clear H
  have H := H1
  clear H1
  obtain rfl := Option.some.inj H
  go_enter Try.func8, Try.ntmps8
  go_wp2_with (first | ((with_reducible refine gate_dst (N := 1) rfl ?_); (try (refine gate_guard (by rfl) ?_; dsimp only)); refine box_event ?hg (N := 1) ?hd (cs := #[.int .i64 a0_0, .int .i64 a0_1, .slice A0_2 l0_2.length c0_2, .slice A0_3 l0_3.length c0_3]) (t := 25) ?hr ?_; (case hd => rfl); (case hg => rfl); (case hr => first | (go_simp; done) | (go_simp; rfl)); intro gb312 hg w63 hbox hb; have n0_ := Aside0.mk (below_step (by repeat with_reducible first | exact HB.out | apply below_alloc | apply pw_below_drewN | apply below_drew1) hb); have n1_ := Aside0.mk (hbox); have n2_ := Aside0.mk ((by rw [hg]; exact (below_size (by repeat with_reducible first | exact HB.out | apply below_alloc | apply pw_below_drewN | apply below_drew1)) : w.heap.size ≤ gb312)); have n3_ := Aside0.mk ((by rw [hg]; exact (below_size (by repeat with_reducible first | exact HB.out | apply below_alloc | apply pw_below_drewN | apply below_drew1)) : w.heap.size ≤ gb312)); clear HB; have HB := n0_; have BK312 := n1_; have GW312 := n2_; have GE312 := n3_; clear n0_ n1_ n2_ n3_; clear hb hbox hg) | ((with_reducible refine gate_callee (f := 25) rfl ?_); refine goesL_ (some 14) rfl rfl Try.func25 (by kernel_rfl) rfl #[] rfl (by (try simp only [List.map_toArray, List.map_cons, List.map_nil]); first | done | rfl) ?_; (with_reducible refine (fettlelaw07_up.calls k  t313 _ A2.out).mono ?_); rintro e w64 ⟨rfl, hb⟩; refine ⟨_, rfl, ?_⟩; have n0_ := Aside0.mk (blk_below (g := gb312) (o := .cells #[.int .i64 a0_0, .int .i64 a0_1, .slice A0_2 l0_2.length c0_2, .slice A0_3 l0_3.length c0_3] 25 (0, 0)) (by (with_reducible repeat (first | refine blk_drewN ?_ _ | refine blk_drew ?_ | refine blk_alloc ?_ _)); exact BK312.out) hb); have n1_ := Aside0.mk (below_step (by repeat with_reducible first | exact HB.out | apply below_alloc | apply pw_below_drewN | apply below_drew1 | refine below_set ?_ GE312.out) hb); clear BK312; clear HB; have BK312 := n0_; have HB := n1_; clear n0_ n1_; (try clear hb); (try clear hb2); (try clear hk); (try clear hi); have hcz65_0 : w64.cell? ⟨gb312, 0, none⟩ = some (.int .i64 a0_0) := (blk_cell BK312.out 0).trans rfl; have hcz65_1 : w64.cell? ⟨gb312, 1, none⟩ = some (.int .i64 a0_1) := (blk_cell BK312.out 1).trans rfl; have hcz65_2 : w64.cell? ⟨gb312, 2, none⟩ = some (.slice A0_2 l0_2.length c0_2) := (blk_cell BK312.out 2).trans rfl; have hcz65_3 : w64.cell? ⟨gb312, 3, none⟩ = some (.slice A0_3 l0_3.length c0_3) := (blk_cell BK312.out 3).trans rfl; have hfz65_0 := blk_frozen BK312.out 0; have hfz65_1 := blk_frozen BK312.out 1; have hfz65_2 := blk_frozen BK312.out 2; have hfz65_3 := blk_frozen BK312.out 3) | ((with_reducible refine gate_callee (f := 26) rfl ?_); refine goesL_ (some 16) rfl rfl Try.func26 (by kernel_rfl) rfl #[.agg #[.int .i64 a0_0, .int .i64 a0_1, .slice A0_2 l0_2.length c0_2, .slice A0_3 l0_3.length c0_3]] rfl (by (try simp only [List.map_toArray, List.map_cons, List.map_nil]); first | done | rfl) ?_; (with_reducible refine (fettlelaw07_small.calls k a0_0 a0_1 (fun k_ => k_ < w.heap.size) _ _ l0_2 (fun k_ => k_ < w.heap.size) _ _ l0_3 false _ ?side1 ?side2 A3.out).mono ?_); (case side1 => exact Kd.V_mk HC0_2.out (Kd.F_below (Kd.C_F (Kd.heap_int .i64) HR0_2.out) (by repeat with_reducible first | exact HB.out | apply below_alloc | apply pw_below_drewN | apply below_drew1 | refine below_set ?_ GE312.out))); (case side2 => exact Kd.V_mk HC0_3.out (Kd.F_below (Kd.C_F k52_heap HR0_3.out) (by repeat with_reducible first | exact HB.out | apply below_alloc | apply pw_below_drewN | apply below_drew1 | refine below_set ?_ GE312.out))); rintro e w66 ⟨rfl, hb⟩; refine ⟨_, rfl, ?_⟩; have n0_ := Aside0.mk (blk_below (g := gb312) (o := .cells #[.int .i64 a0_0, .int .i64 a0_1, .slice A0_2 l0_2.length c0_2, .slice A0_3 l0_3.length c0_3] 25 (0, 0)) (by (with_reducible repeat (first | refine blk_drewN ?_ _ | refine blk_drew ?_ | refine blk_alloc ?_ _)); exact BK312.out) hb); have n1_ := Aside0.mk (below_step (by repeat with_reducible first | exact HB.out | apply below_alloc | apply pw_below_drewN | apply below_drew1 | refine below_set ?_ GE312.out) hb); clear BK312; clear HB; have BK312 := n0_; have HB := n1_; clear n0_ n1_; (try clear hb); (try clear hb2); (try clear hk); (try clear hi)))
  go_ret
  exact ⟨by first | rfl | (simp [errW_none, errW_some] <;> rfl) | (simp [*, errW_none, errW_some] <;> rfl), by repeat (first | (with_reducible first | exact HB.out | apply below_alloc | apply pw_below_drewN | apply below_drew1 | refine below_set ?_ GE312.out) | exact HB.out)⟩

/-- THE ONE PURE STATEMENT of fettlelaw07_LoopsLie: yours. -/
def fettlelaw07_LoopsLie.Pure : Prop := ∀ (a0_0 : Int) (a0_1 : Int) (l0_2 : List Int) (l0_3 : List (S52)), ∃ k, fettlelaw07_LoopsLie.f k a0_0 a0_1 l0_2 l0_3 = some true
theorem fettlelaw07_LoopsLie.walk (P : fettlelaw07_LoopsLie.Pure) (a0_0 : Int) (a0_1 : Int) (A0_2 : Option Addr) (c0_2 : Nat) (l0_2 : List Int) (A0_3 : Option Addr) (c0_3 : Nat) (l0_3 : List (S52)) (w : World) (hr0_2 : Kd.C (Kd.int .i64) w A0_2 l0_2.length l0_2) (hc0_2 : l0_2.length ≤ c0_2) (hr0_3 : Kd.C k52 w A0_3 l0_3.length l0_3) (hc0_3 : l0_3.length ≤ c0_3) :
    Calls Try.prog 8 #[.agg #[.int .i64 a0_0, .int .i64 a0_1, .slice A0_2 l0_2.length c0_2, .slice A0_3 l0_3.length c0_3]] w fun e w' => e = .returned (.bool true) ∧ Below w.heap.size w w' := by
  obtain ⟨k, h⟩ := P a0_0 a0_1 l0_2 l0_3 
  refine (fettlelaw07_LoopsLie.calls k a0_0 a0_1 A0_2 c0_2 l0_2 A0_3 c0_3 l0_3 true w hr0_2 hc0_2 hr0_3 hc0_3 h).mono ?_
  rintro e w' ⟨rfl, hd⟩
  exact ⟨rfl, hd⟩

end Go.Proofs.Ytpionncanaamgaa.PLoopsLie
