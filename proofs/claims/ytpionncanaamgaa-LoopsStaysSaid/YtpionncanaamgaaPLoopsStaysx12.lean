-- Laid by a program of this session (wip/pp/patch.py over the kit's print).
-- mended yes
-- mended: lengths
import Derived.Test.YtpionncanaamgaaUp
import Derived.Test.YtpionncanaamgaaPLoopsStaysx0
namespace Go.Proofs.Ytpionncanaamgaa.PLoopsStays
open Go.Proofs.Ytpionncanaamgaa.Up Go.RowKit Go.Proofs.YtpionncanaamgaaW.PrintWords Go.Proofs.YtpionncanaamgaaW.PrintLast Go.Proofs.YtpionncanaamgaaW.PrintMore Go.Proofs.YtpionncanaamgaaW.PrintWords.Kd
attribute [local go_sem] max2_int min2_int max_two min_two max_three min_three max_four min_four   -- for this text's walks alone
set_option linter.unusedVariables false
set_option linter.unusedSimpArgs false
/-! ### loops_looker_loop: function 40 -/
mutual
def loops_looker_loop.l0 : Nat → Int → List Bool → List Int → List Int → Int → Int → List (List Int) → List (List Int) → List (List Bool) → List Bool → Option (Int × List Int × List Int × Bool)
  | 0, _, _, _, _, _, _, _, _, _, _ => none
  | k + 1, x1, x6, x7, x27, x28, x29, x271000, x271001, x271002, x271003 => if x29 < x28 then (if 0 ≤ x29 then (if x29 < (x27.length : Int) then (if 0 ≤ x1 then (if x1 < (x271002.length : Int) then (if 0 ≤ (rd x27 x29) then (if (rd x27 x29) < ((rd_L11 x271002 x1).length : Int) then (if rdOf false (rd_L11 x271002 x1) (rd x27 x29) = true then (if x7.length < 17592186044416 then (loops_looker_loop.l0 k x1 x6 (x7 ++ [rd x27 x29]) x27 x28 (wrap64 (x29 + 1)) x271000 x271001 x271002 x271003) else (none)) else (loops_looker_loop.l0 k x1 x6 x7 x27 x28 (wrap64 (x29 + 1)) x271000 x271001 x271002 x271003)) else (none)) else (none)) else (none)) else (none)) else (none)) else (none)) else (if (x7.length : Int) = 0 then (some (0, ([] : List Int), ([] : List Int), false)) else (loops_looker_loop.l1 k x1 x6 x7 x271000 x271001 x271002 x271003))
def loops_looker_loop.l1 : Nat → Int → List Bool → List Int → List (List Int) → List (List Int) → List (List Bool) → List Bool → Option (Int × List Int × List Int × Bool)
  | 0, _, _, _, _, _, _, _ => none
  | k + 1, x1, x6, x7, x271000, x271001, x271002, x271003 => if (x7.length : Int) > 0 then (if 0 ≤ (wrap64 ((x7.length : Int) - 1)) then (if (wrap64 ((x7.length : Int) - 1)) < (x7.length : Int) then (if (wrap64 ((x7.length : Int) - 1)) ≤ (x7.length : Int) then ((some (x7.take ((wrap64 ((x7.length : Int) - 1)) : Int).toNat : List Int)).bind fun y284 => (if 0 ≤ (rd x7 (wrap64 ((x7.length : Int) - 1))) then (if (rd x7 (wrap64 ((x7.length : Int) - 1))) < (x6.length : Int) then (if rdOf false x6 (rd x7 (wrap64 ((x7.length : Int) - 1))) = true then (loops_looker_loop.l1 k x1 x6 y284 x271000 x271001 x271002 x271003) else (if (rd x7 (wrap64 ((x7.length : Int) - 1))) < (x271003.length : Int) then (if (rdOf false x271003 (rd x7 (wrap64 ((x7.length : Int) - 1))) = true) then (if (rd x7 (wrap64 ((x7.length : Int) - 1))) < (x271001.length : Int) then (if y284.length + (rd_L1 x271001 (rd x7 (wrap64 ((x7.length : Int) - 1)))).length < 17592186044416 then (loops_looker_loop.l1 k x1 (x6.set ((rd x7 (wrap64 ((x7.length : Int) - 1))) : Int).toNat true) (y284 ++ (rd_L1 x271001 (rd x7 (wrap64 ((x7.length : Int) - 1))))) x271000 x271001 x271002 x271003) else (none)) else (none)) else (loops_looker_loop.l1 k x1 x6 y284 x271000 x271001 x271002 x271003)) else (none))) else (none)) else (none))) else (none)) else (none)) else (none)) else (loops_looker_loop.l2 k x1 x6 x6 (x6.length : Int) 0 x271000 x271001 x271002 x271003 x1 ([] : List Int))
def loops_looker_loop.l2 : Nat → Int → List Bool → List Bool → Int → Int → List (List Int) → List (List Int) → List (List Bool) → List Bool → Int → List Int → Option (Int × List Int × List Int × Bool)
  | 0, _, _, _, _, _, _, _, _, _, _, _ => none
  | k + 1, x1, x6, x88, x89, x90, x271000, x271001, x271002, x271003, x295000, x295001 => if x90 < x89 then (if 0 ≤ x90 then (if x90 < (x88.length : Int) then (if rdOf false x88 x90 = true then (if x295001.length < 17592186044416 then (loops_looker_loop.l2 k x1 x6 x88 x89 (wrap64 (x90 + 1)) x271000 x271001 x271002 x271003 x295000 (x295001 ++ [x90])) else (none)) else (loops_looker_loop.l2 k x1 x6 x88 x89 (wrap64 (x90 + 1)) x271000 x271001 x271002 x271003 x295000 x295001)) else (none)) else (none)) else (if 0 ≤ x1 then (if x1 < (x271001.length : Int) then (loops_looker_loop.l3 k x6 (rd_L1 x271001 x1) ((rd_L1 x271001 x1).length : Int) 0 x271000 x271001 x271002 x271003 x295000 x295001 ([] : List Int)) else (none)) else (none))
def loops_looker_loop.l3 : Nat → List Bool → List Int → Int → Int → List (List Int) → List (List Int) → List (List Bool) → List Bool → Int → List Int → List Int → Option (Int × List Int × List Int × Bool)
  | 0, _, _, _, _, _, _, _, _, _, _, _ => none
  | k + 1, x6, x107, x108, x109, x271000, x271001, x271002, x271003, x295000, x295001, x295002 => if x109 < x108 then (if 0 ≤ x109 then (if x109 < (x107.length : Int) then (if 0 ≤ (rd x107 x109) then (if (rd x107 x109) < (x6.length : Int) then (if (rdOf false x6 (rd x107 x109) = true) then (loops_looker_loop.l3 k x6 x107 x108 (wrap64 (x109 + 1)) x271000 x271001 x271002 x271003 x295000 x295001 x295002) else (if (rd x107 x109) < (x271003.length : Int) then (if rdOf false x271003 (rd x107 x109) = true then (if x295002.length < 17592186044416 then (loops_looker_loop.l3 k x6 x107 x108 (wrap64 (x109 + 1)) x271000 x271001 x271002 x271003 x295000 x295001 (x295002 ++ [rd x107 x109])) else (none)) else (loops_looker_loop.l3 k x6 x107 x108 (wrap64 (x109 + 1)) x271000 x271001 x271002 x271003 x295000 x295001 x295002)) else (none))) else (none)) else (none)) else (none)) else (none)) else (some (x295000, x295001, x295002, true))
end
def loops_looker_loop.f (k : Nat) (l0_0 : List (List Int)) (l0_1 : List (List Int)) (l0_2 : List (List Bool)) (l0_3 : List Bool) (a1 : Int) : Option (Int × List Int × List Int × Bool) := if 0 ≤ (l0_0.length : Int) then (if ((l0_0.length : Int) : Int).toNat ≤ 281474976710656 then ((some (List.replicate ((l0_0.length : Int) : Int).toNat false : List Bool)).bind fun y272 => (if 0 ≤ a1 then (if a1 < (y272.length : Int) then (if a1 < (l0_1.length : Int) then (loops_looker_loop.l0 k a1 (y272.set (a1 : Int).toNat true) ([] : List Int) (rd_L1 l0_1 a1) ((rd_L1 l0_1 a1).length : Int) 0 l0_0 l0_1 l0_2 l0_3) else (none)) else (none)) else (none))) else (none)) else (none)
theorem loops_looker_loop.mono_l : ∀ k, (∀ y0 y1 y2 y3 y4 y5 y6 y7 y8 y9, LeO (loops_looker_loop.l0 k y0 y1 y2 y3 y4 y5 y6 y7 y8 y9) (loops_looker_loop.l0 (k + 1) y0 y1 y2 y3 y4 y5 y6 y7 y8 y9)) ∧ (∀ y0 y1 y2 y3 y4 y5 y6, LeO (loops_looker_loop.l1 k y0 y1 y2 y3 y4 y5 y6) (loops_looker_loop.l1 (k + 1) y0 y1 y2 y3 y4 y5 y6)) ∧ (∀ y0 y1 y2 y3 y4 y5 y6 y7 y8 y9 y10, LeO (loops_looker_loop.l2 k y0 y1 y2 y3 y4 y5 y6 y7 y8 y9 y10) (loops_looker_loop.l2 (k + 1) y0 y1 y2 y3 y4 y5 y6 y7 y8 y9 y10)) ∧ (∀ y0 y1 y2 y3 y4 y5 y6 y7 y8 y9 y10, LeO (loops_looker_loop.l3 k y0 y1 y2 y3 y4 y5 y6 y7 y8 y9 y10) (loops_looker_loop.l3 (k + 1) y0 y1 y2 y3 y4 y5 y6 y7 y8 y9 y10))
  | 0 => ⟨fun _ _ _ _ _ _ _ _ _ _ r h => by simp [loops_looker_loop.l0] at h, fun _ _ _ _ _ _ _ r h => by simp [loops_looker_loop.l1] at h, fun _ _ _ _ _ _ _ _ _ _ _ r h => by simp [loops_looker_loop.l2] at h, fun _ _ _ _ _ _ _ _ _ _ _ r h => by simp [loops_looker_loop.l3] at h⟩
  | k + 1 => by
    obtain ⟨ih0, ih1, ih2, ih3⟩ := loops_looker_loop.mono_l k
    refine ⟨?_, ?_, ?_, ?_⟩
    · intro y0 y1 y2 y3 y4 y5 y6 y7 y8 y9
      unfold loops_looker_loop.l0
      repeat' first
      | (with_reducible exact ih0 _ _ _ _ _ _ _ _ _ _)
      | (with_reducible exact ih1 _ _ _ _ _ _ _)
      | (with_reducible exact ih2 _ _ _ _ _ _ _ _ _ _ _)
      | (with_reducible exact ih3 _ _ _ _ _ _ _ _ _ _ _)
      | (with_reducible exact LeO.refl _)
      | (with_reducible exact LeO.none _)
      | (with_reducible refine LeO.ite ?_ ?_)
      | (with_reducible refine LeO.bind ?_ (fun _ => ?_))
      | exact ih0 _ _ _ _ _ _ _ _ _ _
      | exact ih1 _ _ _ _ _ _ _
      | exact ih2 _ _ _ _ _ _ _ _ _ _ _
      | exact ih3 _ _ _ _ _ _ _ _ _ _ _
      | exact LeO.none _
      | refine LeO.ite ?_ ?_
      | refine LeO.bind ?_ (fun _ => ?_)
    · intro y0 y1 y2 y3 y4 y5 y6
      unfold loops_looker_loop.l1
      repeat' first
      | (with_reducible exact ih0 _ _ _ _ _ _ _ _ _ _)
      | (with_reducible exact ih1 _ _ _ _ _ _ _)
      | (with_reducible exact ih2 _ _ _ _ _ _ _ _ _ _ _)
      | (with_reducible exact ih3 _ _ _ _ _ _ _ _ _ _ _)
      | (with_reducible exact LeO.refl _)
      | (with_reducible exact LeO.none _)
      | (with_reducible refine LeO.ite ?_ ?_)
      | (with_reducible refine LeO.bind ?_ (fun _ => ?_))
      | exact ih0 _ _ _ _ _ _ _ _ _ _
      | exact ih1 _ _ _ _ _ _ _
      | exact ih2 _ _ _ _ _ _ _ _ _ _ _
      | exact ih3 _ _ _ _ _ _ _ _ _ _ _
      | exact LeO.none _
      | refine LeO.ite ?_ ?_
      | refine LeO.bind ?_ (fun _ => ?_)
    · intro y0 y1 y2 y3 y4 y5 y6 y7 y8 y9 y10
      unfold loops_looker_loop.l2
      repeat' first
      | (with_reducible exact ih0 _ _ _ _ _ _ _ _ _ _)
      | (with_reducible exact ih1 _ _ _ _ _ _ _)
      | (with_reducible exact ih2 _ _ _ _ _ _ _ _ _ _ _)
      | (with_reducible exact ih3 _ _ _ _ _ _ _ _ _ _ _)
      | (with_reducible exact LeO.refl _)
      | (with_reducible exact LeO.none _)
      | (with_reducible refine LeO.ite ?_ ?_)
      | (with_reducible refine LeO.bind ?_ (fun _ => ?_))
      | exact ih0 _ _ _ _ _ _ _ _ _ _
      | exact ih1 _ _ _ _ _ _ _
      | exact ih2 _ _ _ _ _ _ _ _ _ _ _
      | exact ih3 _ _ _ _ _ _ _ _ _ _ _
      | exact LeO.none _
      | refine LeO.ite ?_ ?_
      | refine LeO.bind ?_ (fun _ => ?_)
    · intro y0 y1 y2 y3 y4 y5 y6 y7 y8 y9 y10
      unfold loops_looker_loop.l3
      repeat' first
      | (with_reducible exact ih0 _ _ _ _ _ _ _ _ _ _)
      | (with_reducible exact ih1 _ _ _ _ _ _ _)
      | (with_reducible exact ih2 _ _ _ _ _ _ _ _ _ _ _)
      | (with_reducible exact ih3 _ _ _ _ _ _ _ _ _ _ _)
      | (with_reducible exact LeO.refl _)
      | (with_reducible exact LeO.none _)
      | (with_reducible refine LeO.ite ?_ ?_)
      | (with_reducible refine LeO.bind ?_ (fun _ => ?_))
      | exact ih0 _ _ _ _ _ _ _ _ _ _
      | exact ih1 _ _ _ _ _ _ _
      | exact ih2 _ _ _ _ _ _ _ _ _ _ _
      | exact ih3 _ _ _ _ _ _ _ _ _ _ _
      | exact LeO.none _
      | refine LeO.ite ?_ ?_
      | refine LeO.bind ?_ (fun _ => ?_)
theorem loops_looker_loop.mono : ∀ a0 a1 a2 a3 a4 k, LeO (loops_looker_loop.f k a0 a1 a2 a3 a4) (loops_looker_loop.f (k + 1) a0 a1 a2 a3 a4) := by
  intro a0 a1 a2 a3 a4 k
  obtain ⟨ih0, ih1, ih2, ih3⟩ := loops_looker_loop.mono_l k
  unfold loops_looker_loop.f
  repeat' first
      | (with_reducible exact ih0 _ _ _ _ _ _ _ _ _ _)
      | (with_reducible exact ih1 _ _ _ _ _ _ _)
      | (with_reducible exact ih2 _ _ _ _ _ _ _ _ _ _ _)
      | (with_reducible exact ih3 _ _ _ _ _ _ _ _ _ _ _)
      | (with_reducible exact LeO.refl _)
      | (with_reducible exact LeO.none _)
      | (with_reducible refine LeO.ite ?_ ?_)
      | (with_reducible refine LeO.bind ?_ (fun _ => ?_))
      | exact ih0 _ _ _ _ _ _ _ _ _ _
      | exact ih1 _ _ _ _ _ _ _
      | exact ih2 _ _ _ _ _ _ _ _ _ _ _
      | exact ih3 _ _ _ _ _ _ _ _ _ _ _
      | exact LeO.none _
      | refine LeO.ite ?_ ?_
      | refine LeO.bind ?_ (fun _ => ?_)
set_option maxHeartbeats 8000000 in
set_option maxRecDepth 100000 in
theorem loops_looker_loop.calls (k : Nat) (A0_0 : Option Addr) (c0_0 : Nat) (l0_0 : List (List Int)) (A0_1 : Option Addr) (c0_1 : Nat) (l0_1 : List (List Int)) (A0_2 : Option Addr) (c0_2 : Nat) (l0_2 : List (List Bool)) (A0_3 : Option Addr) (c0_3 : Nat) (l0_3 : List Bool) (a1 : Int) (r1 : Int) (r2 : List Int) (r3 : List Int) (r4 : Bool) (w : World) (hr0_0 : Kd.C (Kd.slice 3 (Kd.int .i64)) w A0_0 l0_0.length l0_0) (hc0_0 : l0_0.length ≤ c0_0) (hr0_1 : Kd.C (Kd.slice 3 (Kd.int .i64)) w A0_1 l0_1.length l0_1) (hc0_1 : l0_1.length ≤ c0_1) (hr0_2 : Kd.C (Kd.slice 4 Kd.bool) w A0_2 l0_2.length l0_2) (hc0_2 : l0_2.length ≤ c0_2) (hr0_3 : Kd.C Kd.bool w A0_3 l0_3.length l0_3) (hc0_3 : l0_3.length ≤ c0_3) (h : loops_looker_loop.f k l0_0 l0_1 l0_2 l0_3 a1 = some (r1, r2, r3, r4)) :
    Calls Try.prog 40 #[.agg #[.slice A0_0 l0_0.length c0_0, .slice A0_1 l0_1.length c0_1, .slice A0_2 l0_2.length c0_2, .slice A0_3 l0_3.length c0_3], .int .i64 a1] w fun e w' => ∃ v1_ v2_ : Value, e = .returned (.tuple #[.agg #[.int .i64 r1, v1_, v2_], .bool r4]) ∧ Kd.R (Kd.int .i64) 3 w' w.heap.size (fun k_ => some k_ ≠ (v2_ : Value).ownBlock) v1_ r2 ∧ Kd.R (Kd.int .i64) 3 w' w.heap.size (fun k_ => some k_ ≠ (v1_ : Value).ownBlock) v2_ r3 ∧ Below w.heap.size w w' := by
  have hu67 := Try.underlying67
  have hu44 := Try.underlying44
  have HR0_0 := Aside0.mk hr0_0
  have HC0_0 := Aside0.mk hc0_0
  clear hr0_0 hc0_0
  have HR0_1 := Aside0.mk hr0_1
  have HC0_1 := Aside0.mk hc0_1
  clear hr0_1 hc0_1
  have HR0_2 := Aside0.mk hr0_2
  have HC0_2 := Aside0.mk hc0_2
  clear hr0_2 hc0_2
  have HR0_3 := Aside0.mk hr0_3
  have HC0_3 := Aside0.mk hc0_3
  clear hr0_3 hc0_3
  have HB := Aside0.mk (Below.refl w.heap.size w)
  have H : (if 0 ≤ (l0_0.length : Int) then (if ((l0_0.length : Int) : Int).toNat ≤ 281474976710656 then ((some (List.replicate ((l0_0.length : Int) : Int).toNat false : List Bool)).bind fun y272 => (if 0 ≤ a1 then (if a1 < (y272.length : Int) then (if a1 < (l0_1.length : Int) then (loops_looker_loop.l0 k a1 (y272.set (a1 : Int).toNat true) ([] : List Int) (rd_L1 l0_1 a1) ((rd_L1 l0_1 a1).length : Int) 0 l0_0 l0_1 l0_2 l0_3) else (none)) else (none)) else (none))) else (none)) else (none)) = some (r1, r2, r3, r4) := h
  clear h
  by_cases c3 : 0 ≤ (l0_0.length : Int)
  rotate_left
  · rw [if_neg c3] at H
    exact absurd H (by simp)
  rw [if_pos c3] at H
  have c3b0 := eq_true c3
  have c3b1 : decide (0 ≤ (l0_0.length : Int)) = true := decide_eq_true c3
  clear c3
  by_cases c4 : ((l0_0.length : Int) : Int).toNat ≤ 281474976710656
  rotate_left
  · rw [if_neg c4] at H
    exact absurd H (by simp)
  rw [if_pos c4] at H
  have c4b0 := eq_true c4
  have c4b1 : decide (((l0_0.length : Int) : Int).toNat ≤ 281474976710656) = true := decide_eq_true c4
  clear c4
  obtain ⟨y272, hy272⟩ : ∃ y_ : List Bool, y_ = (List.replicate ((l0_0.length : Int) : Int).toNat false) := ⟨_, rfl⟩
  replace H : (if 0 ≤ a1 then (if a1 < (y272.length : Int) then (if a1 < (l0_1.length : Int) then (loops_looker_loop.l0 k a1 (y272.set (a1 : Int).toNat true) ([] : List Int) (rd_L1 l0_1 a1) ((rd_L1 l0_1 a1).length : Int) 0 l0_0 l0_1 l0_2 l0_3) else (none)) else (none)) else (none)) = some (r1, r2, r3, r4) := by first | (rw [hy272]; with_reducible exact H) | (have H2_ := (Option.bind_some _ _).symm.trans H; rw [hy272]; with_reducible exact H2_) | exact H
  have Ny272 := Aside0.mk hy272
  clear hy272
  by_cases c5 : 0 ≤ a1
  rotate_left
  · rw [if_neg c5] at H
    exact absurd H (by simp)
  rw [if_pos c5] at H
  have c5b0 : decide (0 ≤ a1) = true := decide_eq_true c5
  clear c5
  by_cases c6 : a1 < (y272.length : Int)
  rotate_left
  · rw [if_neg c6] at H
    exact absurd H (by simp)
  rw [if_pos c6] at H
  have c6b0 : decide (a1 < (y272.length : Int)) = true := decide_eq_true c6
  clear c6
  obtain ⟨y275, hy275⟩ : ∃ y_ : List Bool, y_ = (y272.set (a1 : Int).toNat true) := ⟨_, rfl⟩
  replace H : (if a1 < (l0_1.length : Int) then (loops_looker_loop.l0 k a1 y275 ([] : List Int) (rd_L1 l0_1 a1) ((rd_L1 l0_1 a1).length : Int) 0 l0_0 l0_1 l0_2 l0_3) else (none)) = some (r1, r2, r3, r4) := by first | (rw [hy275]; with_reducible exact H) | (have H2_ := (Option.bind_some _ _).symm.trans H; rw [hy275]; with_reducible exact H2_) | exact H
  have Ny275 := Aside0.mk hy275
  clear hy275
  by_cases c8 : a1 < (l0_1.length : Int)
  rotate_left
  · rw [if_neg c8] at H
    exact absurd H (by simp)
  rw [if_pos c8] at H
  have c8b0 : decide (a1 < (l0_1.length : Int)) = true := decide_eq_true c8
  clear c8
  have H' := Aside0.mk H
  clear H
  go_enter Try.func40, Try.ntmps40
  go_wp2_with (first | ((with_reducible refine gate_dst (N := 2) rfl ?_); refine box_event ?hg (N := 2) ?hd (cs := #[.slice A0_0 l0_0.length c0_0, .slice A0_1 l0_1.length c0_1, .slice A0_2 l0_2.length c0_2, .slice A0_3 l0_3.length c0_3]) (t := 67) ?hr ?_; (case hd => rfl); (case hg => rfl); (case hr => first | (go_simp; done) | (go_simp; rfl)); intro gb270 hg w9 hbox hb; have n0_ := Aside0.mk (below_step (lu HB.out) hb); have n1_ := Aside0.mk (hbox); have n2_ := Aside0.mk ((by rw [hg]; exact (below_size (lu HB.out)) : w.heap.size ≤ gb270)); have n3_ := Aside0.mk ((by rw [hg]; exact (below_size (lu HB.out)) : w.heap.size ≤ gb270)); clear HB; have HB := n0_; have BK270 := n1_; have GW270 := n2_; have GE270 := n3_; clear n0_ n1_ n2_ n3_; clear hb hbox hg) | ((with_reducible refine gate_dst (N := 4) rfl ?_); refine box_event ?hg (N := 4) ?hd (cs := #[.int .i64 0, .slice none 0 0, .slice none 0 0]) (t := 44) ?hr ?_; (case hd => rfl); (case hg => rfl); (case hr => first | (go_simp; done) | (go_simp; rfl)); intro gb271 hg w10 hbox hb; have n0_ := Aside0.mk (blk_below (bu BK270.out) hb); have n1_ := Aside0.mk (below_step (lu HB.out) hb); have n2_ := Aside0.mk (hbox); have n3_ := Aside0.mk ((by rw [hg]; exact (below_size (lu HB.out)) : w.heap.size ≤ gb271)); have n4_ := Aside0.mk ((by rw [hg]; exact (below_size (lu HB.out)) : w.heap.size ≤ gb271)); have n5_ := Aside0.mk ((by rw [hg]; exact Nat.ne_of_lt (blk_lt (bu BK270.out)) : gb270 ≠ gb271)); have n6_ := Aside0.mk ((by rw [hg]; exact Nat.ne_of_gt (blk_lt (bu BK270.out)) : gb271 ≠ gb270)); clear BK270; clear HB; have BK270 := n0_; have HB := n1_; have BK271 := n2_; have GW271 := n3_; have GE271 := n4_; have NB270_271 := n5_; have NB271_270 := n6_; clear n0_ n1_ n2_ n3_ n4_ n5_ n6_; clear hb hbox hg; have hnb11 := NB270_271.out; have hnc11 := NB271_270.out; have hcz12_0 : w10.cell? ⟨gb270, 0, none⟩ = some (.slice A0_0 l0_0.length c0_0) := (blk_cell BK270.out 0).trans rfl; have hcz12_1 : w10.cell? ⟨gb270, 1, none⟩ = some (.slice A0_1 l0_1.length c0_1) := (blk_cell BK270.out 1).trans rfl; have hcz12_2 : w10.cell? ⟨gb270, 2, none⟩ = some (.slice A0_2 l0_2.length c0_2) := (blk_cell BK270.out 2).trans rfl; have hcz12_3 : w10.cell? ⟨gb270, 3, none⟩ = some (.slice A0_3 l0_3.length c0_3) := (blk_cell BK270.out 3).trans rfl; have hfz12_0 := blk_frozen BK270.out 0; have hfz12_1 := blk_frozen BK270.out 1; have hfz12_2 := blk_frozen BK270.out 2; have hfz12_3 := blk_frozen BK270.out 3) | ((with_reducible refine gate_dst (N := 19) rfl ?_); refine Kd.R_make Kd.bool _ 4 rfl (N := 19) rfl 34 _ _ rfl (l0_0.length : Int) rfl rfl Try.underlying34 (.bool false) 1 info4 rfl (by decide) (by omega) false (ok := fun _ => True) (okp := fun _ => True) rfl (fun _ hk => hk) trivial (of_decide_eq_true (by with_reducible assumption)) (Nat.le_trans (Nat.mul_le_mul_right _ (of_decide_eq_true (by with_reducible assumption) : (l0_0.length : Int).toNat ≤ 281474976710656)) (by omega)) (Below.refl _ _) (Nat.le_refl _) ?_; intro v273 w13 ho14 hb hg_ hnew_; clear hg_ hnew_; rw [← Ny272.out] at ho14; have n0_ := Aside0.mk (Kd.R_lower ho14 (below_size (lu HB.out))); have n1_ := Aside0.mk (blk_below (bu BK270.out) hb); have n2_ := Aside0.mk (blk_below (bu BK271.out) hb); have n3_ := Aside0.mk (below_step (lu HB.out) hb); clear BK270; clear BK271; clear HB; have HO274 := n0_; have BK270 := n1_; have BK271 := n2_; have HB := n3_; clear n0_ n1_ n2_ n3_; clear hb ho14; have p7 : 0 ≤ (a1 : Int) := of_decide_eq_true (by with_reducible assumption); have q7 : (a1 : Int) < ((y272.length : Int) : Int) := of_decide_eq_true (by with_reducible assumption); obtain ⟨go7, co7, eo7, gb7, gl7, cl7, HG7⟩ := Kd.R_form HO274.out (by omega); (first | cases eo7 | (injection eo7 with ea_ en_ ec_; (first | subst ea_ | (injection ea_ with ea_; subst ea_)); subst ec_; clear en_)); have GB7 := Aside0.mk gb7; have GG7 := Aside0.mk HG7; clear gb7 gl7 HG7; obtain ⟨hx7_0, hf7_0⟩ := Kd.R_celln false HO274.out (a1 : Int) p7 q7; replace p7 := eq_true p7; replace q7 := eq_true q7; obtain ⟨hy15_, hz15_⟩ := Kd.R_celln false HO274.out (a1 : Int) (of_decide_eq_true (by with_reducible assumption)) (of_decide_eq_true (by with_reducible assumption)); have HP15 := Kd.R_putg HO274.out (a1 : Int) true) | ((with_reducible refine gate_store (t := 4) (p := 22) rfl ?_); refine store_event (t := 4) (p := 22) (v := ?vo_w16) (w1 := (w13.setCell ⟨go7, (a1 : Int).toNat, none⟩ (.bool true))) ?hg ?ho ?hn ?hr ?_; (case ho => rfl); (case hg => rfl); (case hn => rfl); (case hr => first | (go_simp; done) | (go_simp; rfl)); intro w16 hw; have hg : w13.grownBy w16 (some go7) := (by rw [hw]; exact HP15.2); have hp_ : Kd.R Kd.bool 4 w16 w.heap.size (fun _ => True) (.slice (some ⟨go7, 0, none⟩) y272.length co7) y275 := (by rw [hw, Ny275.out]; exact HP15.1); clear HP15; have n0_ := Aside0.mk (blk_grown (bu BK270.out) hg (Kd.R_ne HO274.out BK270.out (by decide))); have n1_ := Aside0.mk (blk_grown (bu BK271.out) hg (Kd.R_ne HO274.out BK271.out (by decide))); have n2_ := Aside0.mk (hp_); have n3_ := Aside0.mk ((by rw [hw]; exact below_set (HB.out) GB7.out : Below w.heap.size w w16)); clear BK270; clear BK271; clear HO274; clear HB; have BK270 := n0_; have BK271 := n1_; have HO274 := n2_; have HB := n3_; clear n0_ n1_ n2_ n3_; clear hg hw hp_; have hcz17_0 : w16.cell? ⟨gb270, 0, none⟩ = some (.slice A0_0 l0_0.length c0_0) := (blk_cell BK270.out 0).trans rfl; have hcz17_1 : w16.cell? ⟨gb270, 1, none⟩ = some (.slice A0_1 l0_1.length c0_1) := (blk_cell BK270.out 1).trans rfl; have hcz17_2 : w16.cell? ⟨gb270, 2, none⟩ = some (.slice A0_2 l0_2.length c0_2) := (blk_cell BK270.out 2).trans rfl; have hcz17_3 : w16.cell? ⟨gb270, 3, none⟩ = some (.slice A0_3 l0_3.length c0_3) := (blk_cell BK270.out 3).trans rfl; have hfz17_0 := blk_frozen BK270.out 0; have hfz17_1 := blk_frozen BK270.out 1; have hfz17_2 := blk_frozen BK270.out 2; have hfz17_3 := blk_frozen BK270.out 3; have p276 : 0 ≤ (a1 : Int) := of_decide_eq_true (by with_reducible assumption); have q276 : a1 < (l0_1.length : Int) := of_decide_eq_true (by with_reducible assumption); obtain ⟨ad276, A276_0, c276_0, e276, hx276_0, hl276_0, hi276_0⟩ := at_L1 HR0_1.out a1 p276 q276; cases e276; replace hx276_0 := (HB.out.cell (World.block_lt_of_cell? w _ hx276_0)).trans hx276_0; have HR276_0 := Aside0.mk hi276_0; have HC276_0 := Aside0.mk hl276_0; clear hi276_0 hl276_0; replace p276 := eq_true p276; replace q276 := eq_true q276))
  go_loopg [7, 29] k (fun kq v7 v29 w' => ∃ (x7_1 : List Int) (x29_1 : Int), v29 = .int .i64 x29_1 ∧ Aside0 (loops_looker_loop.l0 kq a1 y275 x7_1 (rd_L1 l0_1 a1) ((rd_L1 l0_1 a1).length : Int) x29_1 l0_0 l0_1 l0_2 l0_3 = some (r1, r2, r3, r4)) ∧ Aside0 (kq ≤ k) ∧ Aside0 (Kd.R Kd.bool 4 w' w.heap.size (fun _ => True) (.slice (some ⟨go7, 0, none⟩) y272.length co7) y275) ∧ Aside0 (Kd.R (Kd.int .i64) 3 w' w.heap.size (fun _ => True) v7 x7_1) ∧ Aside0 (w'.heap[gb270]? = some (.cells #[(.slice A0_0 l0_0.length c0_0), (.slice (some ad276) l0_1.length c0_1), (.slice A0_2 l0_2.length c0_2), (.slice A0_3 l0_3.length c0_3)] 67 (0, 0))) ∧ Aside0 (w'.heap[gb271]? = some (.cells #[.int .i64 0, (.slice none 0 0), (.slice none 0 0)] 44 (0, 0))) ∧ Aside0 (Below w.heap.size w w'))
  case atStart => exact ⟨(([] : List Int)), (0), (by first | rfl | (simp; done) | (simp [*]; done)), H', ⟨Nat.le_refl _⟩, ⟨ru HO274.out⟩, ⟨by first | exact Kd.R_nil _ _ _ _ _ | exact Kd.N_nil _ _ _ _ _ | exact Kd.V_nil _ _ _ _ _ | exact Kd.Q_nil _ _ _ _ _ | exact Kd.S_nil _ _ _ _ _⟩, ⟨bu BK270.out⟩, ⟨bu BK271.out⟩, ⟨lu HB.out⟩⟩
  clear H'
  try clear c1
  try clear c2
  try clear p2
  try clear q2
  try clear hx2
  try clear c3
  try clear c3b0
  try clear c3b1
  try clear c4
  try clear c4b0
  try clear c4b1
  try clear c5
  try clear c5b0
  try clear c6
  try clear c6b0
  try clear p7
  try clear q7
  try clear hx7
  try clear hf7
  try clear c8
  try clear c8b0
  try clear c11
  try clear hcz12_0
  try clear hcz12_1
  try clear hcz12_2
  try clear hcz12_3
  try clear hcz17_0
  try clear hcz17_1
  try clear hcz17_2
  try clear hcz17_3
  try clear hfz12_0
  try clear hfz12_1
  try clear hfz12_2
  try clear hfz12_3
  try clear hfz17_0
  try clear hfz17_1
  try clear hfz17_2
  try clear hfz17_3
  try clear hx276_0
  try clear hx7_0
  try clear p276
  try clear p7
  try clear q276
  try clear q7
  obtain ⟨x7_1, x29_1, rfl, HA, HK1, HO_6, HO_7, BK270, BK271, HB⟩ := hrel
  have hl6_1 := (R_reads' HO_6.out).1
  rw [hl6_1] at HO_6
  (try simp only [hl6_1])
  (try simp only [hl6_1] at BK270)
  (try simp only [hl6_1] at BK271)
  (try simp only [hl6_1] at HO_7)
  rcases gk with _ | k1
  · exact absurd HA.out (by simp [loops_looker_loop.l0])
  have H := HA.out
  clear HA
  simp only [loops_looker_loop.l0] at H
  by_cases c18 : x29_1 < ((rd_L1 l0_1 a1).length : Int)
  · rw [if_pos c18] at H
    have c18b0 : decide (x29_1 < ((rd_L1 l0_1 a1).length : Int)) = true := decide_eq_true c18
    have c18b0l := c18b0
    (try simp only [hl6_1] at c18b0l)
    clear c18
    by_cases c19 : 0 ≤ x29_1
    rotate_left
    · rw [if_neg c19] at H
      exact absurd H (by simp)
    rw [if_pos c19] at H
    have c19b0 : decide (0 ≤ x29_1) = true := decide_eq_true c19
    clear c19
    by_cases c20 : x29_1 < ((rd_L1 l0_1 a1).length : Int)
    rotate_left
    · rw [if_neg c20] at H
      exact absurd H (by simp)
    rw [if_pos c20] at H
    have c20b0 : decide (x29_1 < ((rd_L1 l0_1 a1).length : Int)) = true := decide_eq_true c20
    have c20b0l := c20b0
    (try simp only [hl6_1] at c20b0l)
    clear c20
    by_cases c21 : 0 ≤ a1
    rotate_left
    · rw [if_neg c21] at H
      exact absurd H (by simp)
    rw [if_pos c21] at H
    have c21b0 : decide (0 ≤ a1) = true := decide_eq_true c21
    clear c21
    by_cases c22 : a1 < (l0_2.length : Int)
    rotate_left
    · rw [if_neg c22] at H
      exact absurd H (by simp)
    rw [if_pos c22] at H
    have c22b0 : decide (a1 < (l0_2.length : Int)) = true := decide_eq_true c22
    have c22b0l := c22b0
    (try simp only [hl6_1] at c22b0l)
    clear c22
    by_cases c23 : 0 ≤ (rd (rd_L1 l0_1 a1) x29_1)
    rotate_left
    · rw [if_neg c23] at H
      exact absurd H (by simp)
    rw [if_pos c23] at H
    have c23b0 : decide (0 ≤ (rd (rd_L1 l0_1 a1) x29_1)) = true := decide_eq_true c23
    clear c23
    by_cases c24 : (rd (rd_L1 l0_1 a1) x29_1) < ((rd_L11 l0_2 a1).length : Int)
    rotate_left
    · rw [if_neg c24] at H
      exact absurd H (by simp)
    rw [if_pos c24] at H
    have c24b0 : decide ((rd (rd_L1 l0_1 a1) x29_1) < ((rd_L11 l0_2 a1).length : Int)) = true := decide_eq_true c24
    have c24b0l := c24b0
    (try simp only [hl6_1] at c24b0l)
    clear c24
    obtain ⟨bq25, hbq25⟩ : ∃ b_ : Bool, b_ = (rdOf false (rd_L11 l0_2 a1) (rd (rd_L1 l0_1 a1) x29_1)) := ⟨_, rfl⟩
    replace H : (if bq25 = true then (if x7_1.length < 17592186044416 then (loops_looker_loop.l0 k1 a1 y275 (x7_1 ++ [rd (rd_L1 l0_1 a1) x29_1]) (rd_L1 l0_1 a1) ((rd_L1 l0_1 a1).length : Int) (wrap64 (x29_1 + 1)) l0_0 l0_1 l0_2 l0_3) else (none)) else (loops_looker_loop.l0 k1 a1 y275 x7_1 (rd_L1 l0_1 a1) ((rd_L1 l0_1 a1).length : Int) (wrap64 (x29_1 + 1)) l0_0 l0_1 l0_2 l0_3)) = some (r1, r2, r3, r4) := by rw [← hbq25] at H; exact H
    have Nbq25 := Aside0.mk hbq25
    clear hbq25
    by_cases c26 : bq25 = true
    · subst c26
      have H1 : (if x7_1.length < 17592186044416 then (loops_looker_loop.l0 k1 a1 y275 (x7_1 ++ [rd (rd_L1 l0_1 a1) x29_1]) (rd_L1 l0_1 a1) ((rd_L1 l0_1 a1).length : Int) (wrap64 (x29_1 + 1)) l0_0 l0_1 l0_2 l0_3) else (none)) = some (r1, r2, r3, r4) := by rw [if_pos rfl] at H; exact H
      clear H
      have H := H1
      clear H1
      by_cases c27 : x7_1.length < 17592186044416
      rotate_left
      · rw [if_neg c27] at H
        exact absurd H (by simp)
      rw [if_pos c27] at H
      have LMc27 := Aside0.mk c27
      clear c27
      obtain ⟨y280, hy280⟩ : ∃ y_ : List Int, y_ = (x7_1 ++ [rd (rd_L1 l0_1 a1) x29_1]) := ⟨_, rfl⟩
      replace H : (loops_looker_loop.l0 k1 a1 y275 y280 (rd_L1 l0_1 a1) ((rd_L1 l0_1 a1).length : Int) (wrap64 (x29_1 + 1)) l0_0 l0_1 l0_2 l0_3) = some (r1, r2, r3, r4) := by first | (rw [hy280]; with_reducible exact H) | (have H2_ := (Option.bind_some _ _).symm.trans H; rw [hy280]; with_reducible exact H2_) | exact H
      have Ny280 := Aside0.mk hy280
      clear hy280
      have H' := Aside0.mk H
      clear H
      have p277 : 0 ≤ (x29_1 : Int) := of_decide_eq_true (by with_reducible assumption)
      have q277 : x29_1 < ((rd_L1 l0_1 a1).length : Int) := of_decide_eq_true (by with_reducible assumption)
      obtain ⟨ad277, e277, hx277_0⟩ := Kd.at_int HR276_0.out x29_1 p277 q277
      cases e277
      replace hx277_0 := (HB.out.cell (World.block_lt_of_cell? w _ hx277_0)).trans hx277_0
      replace p277 := eq_true p277
      replace q277 := eq_true q277
      have hnb28 := NB270_271.out
      have hnc28 := NB271_270.out
      have hcz29_0 : wr.cell? ⟨gb270, 0, none⟩ = some (.slice A0_0 l0_0.length c0_0) := (blk_cell BK270.out 0).trans rfl
      have hcz29_1 : wr.cell? ⟨gb270, 1, none⟩ = some (.slice (some ad276) l0_1.length c0_1) := (blk_cell BK270.out 1).trans rfl
      have hcz29_2 : wr.cell? ⟨gb270, 2, none⟩ = some (.slice A0_2 l0_2.length c0_2) := (blk_cell BK270.out 2).trans rfl
      have hcz29_3 : wr.cell? ⟨gb270, 3, none⟩ = some (.slice A0_3 l0_3.length c0_3) := (blk_cell BK270.out 3).trans rfl
      have hfz29_0 := blk_frozen BK270.out 0
      have hfz29_1 := blk_frozen BK270.out 1
      have hfz29_2 := blk_frozen BK270.out 2
      have hfz29_3 := blk_frozen BK270.out 3
      have p278 : 0 ≤ (a1 : Int) := of_decide_eq_true (by with_reducible assumption)
      have q278 : a1 < (l0_2.length : Int) := of_decide_eq_true (by with_reducible assumption)
      obtain ⟨ad278, A278_0, c278_0, e278, hx278_0, hl278_0, hi278_0⟩ := at_L11 HR0_2.out a1 p278 q278
      cases e278
      replace hx278_0 := (HB.out.cell (World.block_lt_of_cell? w _ hx278_0)).trans hx278_0
      have HR278_0 := Aside0.mk hi278_0
      have HC278_0 := Aside0.mk hl278_0
      clear hi278_0 hl278_0
      replace p278 := eq_true p278
      replace q278 := eq_true q278
      have p279 : 0 ≤ ((rd (rd_L1 l0_1 a1) x29_1) : Int) := of_decide_eq_true (by with_reducible assumption)
      have q279 : (rd (rd_L1 l0_1 a1) x29_1) < ((rd_L11 l0_2 a1).length : Int) := of_decide_eq_true (by with_reducible assumption)
      obtain ⟨ad279, e279, hx279_0⟩ := Kd.at_bool HR278_0.out (rd (rd_L1 l0_1 a1) x29_1) p279 q279
      (try rw [← Nbq25.out] at hx279_0)
      cases e279
      replace hx279_0 := (HB.out.cell (World.block_lt_of_cell? w _ hx279_0)).trans hx279_0
      replace p279 := eq_true p279
      replace q279 := eq_true q279
      go_wp2_with (first | ((with_reducible refine gate_builtin (b := .append) (xs := #[.tmp 41, .tmp 43]) rfl ?_); at_builtin; refine Kd.R_append (Kd.int .i64) (w0 := w) w.heap.size rfl (.tmp 41) (.tmp 43) 22 3 (.int .i64 0) 8 rfl Try.underlying22 info3 rfl (by decide) (by omega) u7 x7_1 (rd (rd_L1 l0_1 a1) x29_1) [.int .i64 (rd (rd_L1 l0_1 a1) x29_1)] (fun _ => True) (fun _ => False) rfl rfl ?aP (fun _ hk => hk.elim) ?aF ?aO ?aB ?aS ?aL ?_; (case aP => exact rfl); (case aB => exact (lu HB.out)); (case aF => exact (fun _ _ => trivial)); (case aO => exact (ru HO_7.out)); (case aS => exact (below_size (lu HB.out))); (case aL => have := LMc27.out; omega); intro v281 w30 ho hb hg hat; rw [← Ny280.out] at ho; have n0_ := Aside0.mk (Kd.R_over' (ru HO_6.out) (Kd.R_typed (ru HO_7.out)) (by decide) hg); have n1_ := Aside0.mk (blk_grown (bu BK270.out) hg (Kd.R_ne HO_7.out BK270.out (by decide))); have n2_ := Aside0.mk (blk_grown (bu BK271.out) hg (Kd.R_ne HO_7.out BK271.out (by decide))); have n3_ := Aside0.mk (hb); have n4_ := Aside0.mk (ho); clear HO_6; clear BK270; clear BK271; clear HB; clear HO_7; have HO_6 := n0_; have BK270 := n1_; have BK271 := n2_; have HB := n3_; have HO282 := n4_; clear n0_ n1_ n2_ n3_ n4_; clear ho hb hg hat))
      (try simp only [← hl6_1])
      go_roundg k1
      case measure => have := HK1.out; omega
      case rel => exact ⟨(y280), (wrap64 (x29_1 + 1)), (by first | rfl | (simp; done) | (simp [*]; done)), H', ⟨by have := HK1.out; omega⟩, ⟨by (try simp only [hl6_1]); (with_reducible repeat (first | apply R_alloc | apply R_drewN | apply R_drew)); exact HO_6.out⟩, ⟨by (try simp only [hl6_1]); (with_reducible repeat (first | apply R_alloc | apply R_drewN | apply R_drew)); exact HO282.out⟩, ⟨by (try simp only [hl6_1]); (with_reducible repeat (first | refine blk_drewN ?_ _ | refine blk_drew ?_ | refine blk_alloc ?_ _)); exact BK270.out⟩, ⟨by (try simp only [hl6_1]); (with_reducible repeat (first | refine blk_drewN ?_ _ | refine blk_drew ?_ | refine blk_alloc ?_ _)); exact BK271.out⟩, ⟨lu HB.out⟩⟩
    replace c26 := Bool.eq_false_iff.mpr c26
    subst c26
    have H1 : (loops_looker_loop.l0 k1 a1 y275 x7_1 (rd_L1 l0_1 a1) ((rd_L1 l0_1 a1).length : Int) (wrap64 (x29_1 + 1)) l0_0 l0_1 l0_2 l0_3) = some (r1, r2, r3, r4) := by rw [if_neg (show ¬ (false = true) by decide)] at H; exact H
    clear H
    have H := H1
    clear H1
    have H' := Aside0.mk H
    clear H
    have p277 : 0 ≤ (x29_1 : Int) := of_decide_eq_true (by with_reducible assumption)
    have q277 : x29_1 < ((rd_L1 l0_1 a1).length : Int) := of_decide_eq_true (by with_reducible assumption)
    obtain ⟨ad277, e277, hx277_0⟩ := Kd.at_int HR276_0.out x29_1 p277 q277
    cases e277
    replace hx277_0 := (HB.out.cell (World.block_lt_of_cell? w _ hx277_0)).trans hx277_0
    replace p277 := eq_true p277
    replace q277 := eq_true q277
    have hnb31 := NB270_271.out
    have hnc31 := NB271_270.out
    have hcz32_0 : wr.cell? ⟨gb270, 0, none⟩ = some (.slice A0_0 l0_0.length c0_0) := (blk_cell BK270.out 0).trans rfl
    have hcz32_1 : wr.cell? ⟨gb270, 1, none⟩ = some (.slice (some ad276) l0_1.length c0_1) := (blk_cell BK270.out 1).trans rfl
    have hcz32_2 : wr.cell? ⟨gb270, 2, none⟩ = some (.slice A0_2 l0_2.length c0_2) := (blk_cell BK270.out 2).trans rfl
    have hcz32_3 : wr.cell? ⟨gb270, 3, none⟩ = some (.slice A0_3 l0_3.length c0_3) := (blk_cell BK270.out 3).trans rfl
    have hfz32_0 := blk_frozen BK270.out 0
    have hfz32_1 := blk_frozen BK270.out 1
    have hfz32_2 := blk_frozen BK270.out 2
    have hfz32_3 := blk_frozen BK270.out 3
    have p278 : 0 ≤ (a1 : Int) := of_decide_eq_true (by with_reducible assumption)
    have q278 : a1 < (l0_2.length : Int) := of_decide_eq_true (by with_reducible assumption)
    obtain ⟨ad278, A278_0, c278_0, e278, hx278_0, hl278_0, hi278_0⟩ := at_L11 HR0_2.out a1 p278 q278
    cases e278
    replace hx278_0 := (HB.out.cell (World.block_lt_of_cell? w _ hx278_0)).trans hx278_0
    have HR278_0 := Aside0.mk hi278_0
    have HC278_0 := Aside0.mk hl278_0
    clear hi278_0 hl278_0
    replace p278 := eq_true p278
    replace q278 := eq_true q278
    have p279 : 0 ≤ ((rd (rd_L1 l0_1 a1) x29_1) : Int) := of_decide_eq_true (by with_reducible assumption)
    have q279 : (rd (rd_L1 l0_1 a1) x29_1) < ((rd_L11 l0_2 a1).length : Int) := of_decide_eq_true (by with_reducible assumption)
    obtain ⟨ad279, e279, hx279_0⟩ := Kd.at_bool HR278_0.out (rd (rd_L1 l0_1 a1) x29_1) p279 q279
    (try rw [← Nbq25.out] at hx279_0)
    cases e279
    replace hx279_0 := (HB.out.cell (World.block_lt_of_cell? w _ hx279_0)).trans hx279_0
    replace p279 := eq_true p279
    replace q279 := eq_true q279
    go_wp2
    (try simp only [← hl6_1])
    go_roundg k1
    case measure => have := HK1.out; omega
    case rel => exact ⟨(x7_1), (wrap64 (x29_1 + 1)), (by first | rfl | (simp; done) | (simp [*]; done)), H', ⟨by have := HK1.out; omega⟩, ⟨by (try simp only [hl6_1]); (with_reducible repeat (first | apply R_alloc | apply R_drewN | apply R_drew)); exact HO_6.out⟩, ⟨by (try simp only [hl6_1]); (with_reducible repeat (first | apply R_alloc | apply R_drewN | apply R_drew)); exact HO_7.out⟩, ⟨by (try simp only [hl6_1]); (with_reducible repeat (first | refine blk_drewN ?_ _ | refine blk_drew ?_ | refine blk_alloc ?_ _)); exact BK270.out⟩, ⟨by (try simp only [hl6_1]); (with_reducible repeat (first | refine blk_drewN ?_ _ | refine blk_drew ?_ | refine blk_alloc ?_ _)); exact BK271.out⟩, ⟨lu HB.out⟩⟩
  rw [if_neg c18] at H
  have c18b0 : decide (x29_1 < ((rd_L1 l0_1 a1).length : Int)) = false := decide_eq_false c18
  (try simp only [hl6_1] at c18b0)
  clear c18
  by_cases c33 : (x7_1.length : Int) = 0
  · rw [if_pos c33] at H
    have c33b0 : ((x7_1.length : Int) == 0) = true := beq_iff_eq.mpr c33
    have c33b1 : ((x7_1.length : Int) != 0) = false := bne_eq_false_iff_eq.mpr c33
    clear c33
    simp only [Option.some.injEq, Prod.mk.injEq] at H
    obtain ⟨rfl, rfl, rfl, rfl⟩ := H
    obtain ⟨Ao34, co34, eo34⟩ := Kd.R_slice HO_7.out
    subst eo34
    have hnb35 := NB271_270.out
    have hnc35 := NB270_271.out
    have hcz36_0 : wr.cell? ⟨gb271, 0, none⟩ = some (.int .i64 0) := (blk_cell BK271.out 0).trans rfl
    have hcz36_1 : wr.cell? ⟨gb271, 1, none⟩ = some (.slice none 0 0) := (blk_cell BK271.out 1).trans rfl
    have hcz36_2 : wr.cell? ⟨gb271, 2, none⟩ = some (.slice none 0 0) := (blk_cell BK271.out 2).trans rfl
    have hfz36_0 := blk_frozen BK271.out 0
    have hfz36_1 := blk_frozen BK271.out 1
    have hfz36_2 := blk_frozen BK271.out 2
    go_wp2
    refine bodyPost_ret (results_ct rfl _ _ gb271 44 #[.int .i64 0, .slice none 0 0, .slice none 0 0] (0, 0) _ rfl (by (with_reducible repeat (first | refine blk_drewN ?_ _ | refine blk_drew ?_ | refine blk_alloc ?_ _)); refine blk_put (cs := #[.int .i64 0, .slice none 0 0, .slice none 0 0]) ?_ 2 _ rfl; (with_reducible repeat (first | refine blk_drewN ?_ _ | refine blk_drew ?_ | refine blk_alloc ?_ _)); refine blk_put (cs := #[.int .i64 0, .slice none 0 0, .slice none 0 0]) ?_ 1 _ rfl; (with_reducible repeat (first | refine blk_drewN ?_ _ | refine blk_drew ?_ | refine blk_alloc ?_ _)); refine blk_put (cs := #[.int .i64 0, .slice none 0 0, .slice none 0 0]) ?_ 0 _ rfl; (with_reducible repeat (first | refine blk_drewN ?_ _ | refine blk_drew ?_ | refine blk_alloc ?_ _)); exact BK271.out) Try.underlying44 rfl (by kernel_rfl)) rfl ?_
    exact ⟨_, _, by first | rfl | (simp [errW_none, errW_some] <;> rfl) | (simp [*, errW_none, errW_some] <;> rfl), by first | exact Kd.R_nil _ _ _ _ _ | exact Kd.N_nil _ _ _ _ _ | exact Kd.V_nil _ _ _ _ _ | exact Kd.Q_nil _ _ _ _ _ | exact Kd.S_nil _ _ _ _ _, by first | exact Kd.R_nil _ _ _ _ _ | exact Kd.N_nil _ _ _ _ _ | exact Kd.V_nil _ _ _ _ _ | exact Kd.Q_nil _ _ _ _ _ | exact Kd.S_nil _ _ _ _ _, by repeat (first | (with_reducible first | exact HB.out | apply below_alloc | apply pw_below_drewN | apply below_drew1 | refine below_set ?_ GE270.out | refine below_set ?_ GE271.out) | exact HB.out)⟩
  rw [if_neg c33] at H
  have c33b0 : ((x7_1.length : Int) == 0) = false := beq_eq_false_iff_ne.mpr c33
  have c33b1 : ((x7_1.length : Int) != 0) = true := bne_iff_ne.mpr c33
  have c33b2 : ¬ (x7_1 = []) := fun h_ => c33 (by rw [h_]; rfl)
  have H' := Aside0.mk H
  clear H
  obtain ⟨Ao37, co37, eo37⟩ := Kd.R_slice HO_7.out
  subst eo37
  go_wp2
  go_loopg [7] k1 (fun kq v7 w' => ∃ (x6_2 : List Bool) (x7_2 : List Int), Aside0 (loops_looker_loop.l1 kq a1 x6_2 x7_2 l0_0 l0_1 l0_2 l0_3 = some (r1, r2, r3, r4)) ∧ Aside0 (kq ≤ k1) ∧ Aside0 (Kd.R Kd.bool 4 w' w.heap.size (fun _ => True) (.slice (some ⟨go7, 0, none⟩) y275.length co7) x6_2) ∧ Aside0 (Kd.R (Kd.int .i64) 3 w' w.heap.size (fun _ => True) v7 x7_2) ∧ Aside0 (w'.heap[gb270]? = some (.cells #[(.slice A0_0 l0_0.length c0_0), (.slice (some ad276) l0_1.length c0_1), (.slice A0_2 l0_2.length c0_2), (.slice A0_3 l0_3.length c0_3)] 67 (0, 0))) ∧ Aside0 (w'.heap[gb271]? = some (.cells #[.int .i64 0, (.slice none 0 0), (.slice none 0 0)] 44 (0, 0))) ∧ Aside0 (Below w.heap.size w w'))
  case atStart => exact ⟨(y275), (x7_1), H', ⟨Nat.le_refl _⟩, ⟨by (try simp only [hl6_1]); (with_reducible repeat (first | apply R_alloc | apply R_drewN | apply R_drew)); exact HO_6.out⟩, ⟨by (try simp only [hl6_1]); (with_reducible repeat (first | apply R_alloc | apply R_drewN | apply R_drew)); exact HO_7.out⟩, ⟨by (try simp only [hl6_1]); (with_reducible repeat (first | refine blk_drewN ?_ _ | refine blk_drew ?_ | refine blk_alloc ?_ _)); exact BK270.out⟩, ⟨by (try simp only [hl6_1]); (with_reducible repeat (first | refine blk_drewN ?_ _ | refine blk_drew ?_ | refine blk_alloc ?_ _)); exact BK271.out⟩, ⟨lu HB.out⟩⟩
  clear H'
  try clear c1
  try clear c2
  try clear p2
  try clear q2
  try clear hx2
  try clear c3
  try clear c3b0
  try clear c3b1
  try clear c4
  try clear c4b0
  try clear c4b1
  try clear c5
  try clear c5b0
  try clear c6
  try clear c6b0
  try clear p6
  try clear p7
  try clear q7
  try clear hx7
  try clear hf7
  try clear c8
  try clear c8b0
  try clear c11
  try clear c18
  try clear c18b0
  try clear c19
  try clear c19b0
  try clear c20
  try clear c20b0
  try clear c21
  try clear c21b0
  try clear c22
  try clear c22b0
  try clear c23
  try clear c23b0
  try clear c24
  try clear c24b0
  try clear q25
  try clear c26
  try clear c27
  try clear p27
  try clear q27
  try clear hx27
  try clear c28
  try clear c31
  try clear c33
  try clear c33b0
  try clear c33b1
  try clear c33b2
  try clear c35
  try clear hcz12_0
  try clear hcz12_1
  try clear hcz12_2
  try clear hcz12_3
  try clear hcz17_0
  try clear hcz17_1
  try clear hcz17_2
  try clear hcz17_3
  try clear hcz29_0
  try clear hcz29_1
  try clear hcz29_2
  try clear hcz29_3
  try clear hcz32_0
  try clear hcz32_1
  try clear hcz32_2
  try clear hcz32_3
  try clear hcz36_0
  try clear hcz36_1
  try clear hcz36_2
  try clear hfz12_0
  try clear hfz12_1
  try clear hfz12_2
  try clear hfz12_3
  try clear hfz17_0
  try clear hfz17_1
  try clear hfz17_2
  try clear hfz17_3
  try clear hfz29_0
  try clear hfz29_1
  try clear hfz29_2
  try clear hfz29_3
  try clear hfz32_0
  try clear hfz32_1
  try clear hfz32_2
  try clear hfz32_3
  try clear hfz36_0
  try clear hfz36_1
  try clear hfz36_2
  try clear hx276_0
  try clear hx277_0
  try clear hx278_0
  try clear hx279_0
  try clear hx7_0
  try clear p2
  try clear p276
  try clear p277
  try clear p278
  try clear p279
  try clear p7
  try clear q2
  try clear q276
  try clear q277
  try clear q278
  try clear q279
  try clear q7
  obtain ⟨x6_2, x7_2, HA, HK2, HO_6, HO_7, BK270, BK271, HB⟩ := hrel
  have hl6_2 := (R_reads' HO_6.out).1
  rw [hl6_2] at HO_6
  (try simp only [hl6_2])
  (try simp only [hl6_2] at BK270)
  (try simp only [hl6_2] at BK271)
  (try simp only [hl6_2] at HO_7)
  rcases gk with _ | k2
  · exact absurd HA.out (by simp [loops_looker_loop.l1])
  have H := HA.out
  clear HA
  simp only [loops_looker_loop.l1] at H
  by_cases c38 : (x7_2.length : Int) > 0
  · rw [if_pos c38] at H
    have c38b0 : decide (0 < (x7_2.length : Int)) = true := decide_eq_true c38
    have c38b0l := c38b0
    (try simp only [hl6_1, hl6_2] at c38b0l)
    have c38b1 : decide (0 < x7_2.length) = true := decide_eq_true (by omega)
    clear c38
    obtain ⟨ji39, hji39⟩ : ∃ j_ : Int, (wrap64 ((x7_2.length : Int) - 1)) = j_ := ⟨_, rfl⟩
    replace H : (if 0 ≤ (ji39) then (if (ji39) < (x7_2.length : Int) then (if (ji39) ≤ (x7_2.length : Int) then ((some (x7_2.take ((ji39) : Int).toNat : List Int)).bind fun y284 => (if 0 ≤ (rd x7_2 (ji39)) then (if (rd x7_2 (ji39)) < (x6_2.length : Int) then (if rdOf false x6_2 (rd x7_2 (ji39)) = true then (loops_looker_loop.l1 k2 a1 x6_2 y284 l0_0 l0_1 l0_2 l0_3) else (if (rd x7_2 (ji39)) < (l0_3.length : Int) then (if (rdOf false l0_3 (rd x7_2 (ji39)) = true) then (if (rd x7_2 (ji39)) < (l0_1.length : Int) then (if y284.length + (rd_L1 l0_1 (rd x7_2 (ji39))).length < 17592186044416 then (loops_looker_loop.l1 k2 a1 (x6_2.set ((rd x7_2 (ji39)) : Int).toNat true) (y284 ++ (rd_L1 l0_1 (rd x7_2 (ji39)))) l0_0 l0_1 l0_2 l0_3) else (none)) else (none)) else (loops_looker_loop.l1 k2 a1 x6_2 y284 l0_0 l0_1 l0_2 l0_3)) else (none))) else (none)) else (none))) else (none)) else (none)) else (none)) = some (r1, r2, r3, r4) := by first | (rw [hji39] at H; exact H) | (simp only [hji39] at H ⊢; exact H)
    have hji39w : (IntKind.i64.wrap ((x7_2.length : Int) - 1)) = ji39 := (i64_w _).trans hji39
    by_cases c40 : 0 ≤ (ji39)
    rotate_left
    · rw [if_neg c40] at H
      exact absurd H (by simp)
    rw [if_pos c40] at H
    have c40b0 : decide (0 ≤ (ji39)) = true := decide_eq_true c40
    clear c40
    by_cases c41 : (ji39) < (x7_2.length : Int)
    rotate_left
    · rw [if_neg c41] at H
      exact absurd H (by simp)
    rw [if_pos c41] at H
    have c41b0 : decide ((ji39) < (x7_2.length : Int)) = true := decide_eq_true c41
    have c41b0l := c41b0
    (try simp only [hl6_1, hl6_2] at c41b0l)
    clear c41
    by_cases c42 : (ji39) ≤ (x7_2.length : Int)
    rotate_left
    · rw [if_neg c42] at H
      exact absurd H (by simp)
    rw [if_pos c42] at H
    have c42b0 := eq_true c42
    have c42b1 : decide ((ji39) ≤ (x7_2.length : Int)) = true := decide_eq_true c42
    clear c42
    obtain ⟨y284, hy284⟩ : ∃ y_ : List Int, y_ = (x7_2.take ((ji39) : Int).toNat) := ⟨_, rfl⟩
    replace H : (if 0 ≤ (rd x7_2 (ji39)) then (if (rd x7_2 (ji39)) < (x6_2.length : Int) then (if rdOf false x6_2 (rd x7_2 (ji39)) = true then (loops_looker_loop.l1 k2 a1 x6_2 y284 l0_0 l0_1 l0_2 l0_3) else (if (rd x7_2 (ji39)) < (l0_3.length : Int) then (if (rdOf false l0_3 (rd x7_2 (ji39)) = true) then (if (rd x7_2 (ji39)) < (l0_1.length : Int) then (if y284.length + (rd_L1 l0_1 (rd x7_2 (ji39))).length < 17592186044416 then (loops_looker_loop.l1 k2 a1 (x6_2.set ((rd x7_2 (ji39)) : Int).toNat true) (y284 ++ (rd_L1 l0_1 (rd x7_2 (ji39)))) l0_0 l0_1 l0_2 l0_3) else (none)) else (none)) else (loops_looker_loop.l1 k2 a1 x6_2 y284 l0_0 l0_1 l0_2 l0_3)) else (none))) else (none)) else (none)) = some (r1, r2, r3, r4) := by first | (rw [hy284]; with_reducible exact H) | (have H2_ := (Option.bind_some _ _).symm.trans H; rw [hy284]; with_reducible exact H2_) | exact H
    have Ny284 := Aside0.mk hy284
    clear hy284
    by_cases c43 : 0 ≤ (rd x7_2 (ji39))
    rotate_left
    · rw [if_neg c43] at H
      exact absurd H (by simp)
    rw [if_pos c43] at H
    have c43b0 : decide (0 ≤ (rd x7_2 (ji39))) = true := decide_eq_true c43
    clear c43
    by_cases c44 : (rd x7_2 (ji39)) < (x6_2.length : Int)
    rotate_left
    · rw [if_neg c44] at H
      exact absurd H (by simp)
    rw [if_pos c44] at H
    have c44b0 : decide ((rd x7_2 (ji39)) < (x6_2.length : Int)) = true := decide_eq_true c44
    have c44b0l := c44b0
    (try simp only [hl6_1, hl6_2] at c44b0l)
    clear c44
    obtain ⟨bq45, hbq45⟩ : ∃ b_ : Bool, b_ = (rdOf false x6_2 (rd x7_2 (ji39))) := ⟨_, rfl⟩
    replace H : (if bq45 = true then (loops_looker_loop.l1 k2 a1 x6_2 y284 l0_0 l0_1 l0_2 l0_3) else (if (rd x7_2 (ji39)) < (l0_3.length : Int) then (if (rdOf false l0_3 (rd x7_2 (ji39)) = true) then (if (rd x7_2 (ji39)) < (l0_1.length : Int) then (if y284.length + (rd_L1 l0_1 (rd x7_2 (ji39))).length < 17592186044416 then (loops_looker_loop.l1 k2 a1 (x6_2.set ((rd x7_2 (ji39)) : Int).toNat true) (y284 ++ (rd_L1 l0_1 (rd x7_2 (ji39)))) l0_0 l0_1 l0_2 l0_3) else (none)) else (none)) else (loops_looker_loop.l1 k2 a1 x6_2 y284 l0_0 l0_1 l0_2 l0_3)) else (none))) = some (r1, r2, r3, r4) := by rw [← hbq45] at H; exact H
    have Nbq45 := Aside0.mk hbq45
    clear hbq45
    by_cases c46 : bq45 = true
    · subst c46
      have H1 : (loops_looker_loop.l1 k2 a1 x6_2 y284 l0_0 l0_1 l0_2 l0_3) = some (r1, r2, r3, r4) := by rw [if_pos rfl] at H; exact H
      clear H
      have H := H1
      clear H1
      have H' := Aside0.mk H
      clear H
      obtain ⟨Ao47, co47, eo47⟩ := Kd.R_slice HO_7.out
      subst eo47
      have p283 : 0 ≤ ((ji39) : Int) := of_decide_eq_true (by with_reducible assumption)
      have q283 : (ji39) < (x7_2.length : Int) := of_decide_eq_true (by with_reducible assumption)
      obtain ⟨ad283, e283, hx283_0⟩ := Kd.at_int (R_reads' HO_7.out).2.2 (ji39) p283 q283
      cases e283
      replace p283 := eq_true p283
      replace q283 := eq_true q283
      have q48 : ((ji39) : Int) ≤ ((x7_2.length : Int) : Int) := of_decide_eq_true (by with_reducible assumption)
      obtain ⟨i048, hi048, _, hsz48, _⟩ := info_parts info3
      have hcut48 := cut_to (P := Try.prog) 22 3 .i64 Try.underlying22 hi048 (some ad283) x7_2.length co47 (ji39) (of_decide_eq_true (by with_reducible assumption)) q48 (R_reads' HO_7.out).2.1
      have hr48 := Kd.R_take (m := ((ji39) : Int).toNat) HO_7.out (by omega)
      have hy48 : y284.length = ((ji39) : Int).toNat := (by rw [Ny284.out, List.length_take]; omega)
      rw [← Ny284.out] at hr48
      rw [← hy48] at hr48 hcut48
      clear hy48 hi048 hsz48 HO_7
      have HO286 := Aside0.mk hr48
      clear hr48
      replace q48 := eq_true q48
      have p287 : 0 ≤ ((rd x7_2 (ji39)) : Int) := of_decide_eq_true (by with_reducible assumption)
      have q287 : (rd x7_2 (ji39)) < (x6_2.length : Int) := of_decide_eq_true (by with_reducible assumption)
      obtain ⟨ad287, e287, hx287_0⟩ := Kd.at_bool (R_reads' HO_6.out).2.2 (rd x7_2 (ji39)) p287 q287
      (try rw [← Nbq45.out] at hx287_0)
      obtain rfl : (⟨go7, 0, none⟩ : Addr) = ad287 := (by injection e287)
      (first | simp only [add_plain] at hx287_0 | simp only [add_at] at hx287_0 | simp only [Addr.add, Nat.zero_add] at hx287_0 | skip)
      replace p287 := eq_true p287
      replace q287 := eq_true q287
      go_wp2
      (try simp only [← hl6_2])
      go_roundg k2
      case measure => have := HK1.out; have := HK2.out; omega
      case rel => exact ⟨(x6_2), (y284), H', ⟨by have := HK1.out; have := HK2.out; omega⟩, ⟨by (try simp only [hl6_1]); (try simp only [hl6_2]); (with_reducible repeat (first | apply R_alloc | apply R_drewN | apply R_drew)); exact HO_6.out⟩, ⟨by (try simp only [hl6_1]); (try simp only [hl6_2]); (with_reducible repeat (first | apply R_alloc | apply R_drewN | apply R_drew)); exact HO286.out⟩, ⟨by (try simp only [hl6_1]); (try simp only [hl6_2]); (with_reducible repeat (first | refine blk_drewN ?_ _ | refine blk_drew ?_ | refine blk_alloc ?_ _)); exact BK270.out⟩, ⟨by (try simp only [hl6_1]); (try simp only [hl6_2]); (with_reducible repeat (first | refine blk_drewN ?_ _ | refine blk_drew ?_ | refine blk_alloc ?_ _)); exact BK271.out⟩, ⟨lu HB.out⟩⟩
    replace c46 := Bool.eq_false_iff.mpr c46
    subst c46
    have H1 : (if (rd x7_2 (ji39)) < (l0_3.length : Int) then (if (rdOf false l0_3 (rd x7_2 (ji39)) = true) then (if (rd x7_2 (ji39)) < (l0_1.length : Int) then (if y284.length + (rd_L1 l0_1 (rd x7_2 (ji39))).length < 17592186044416 then (loops_looker_loop.l1 k2 a1 (x6_2.set ((rd x7_2 (ji39)) : Int).toNat true) (y284 ++ (rd_L1 l0_1 (rd x7_2 (ji39)))) l0_0 l0_1 l0_2 l0_3) else (none)) else (none)) else (loops_looker_loop.l1 k2 a1 x6_2 y284 l0_0 l0_1 l0_2 l0_3)) else (none)) = some (r1, r2, r3, r4) := by rw [if_neg (show ¬ (false = true) by decide)] at H; exact H
    clear H
    have H := H1
    clear H1
    by_cases c49 : (rd x7_2 (ji39)) < (l0_3.length : Int)
    rotate_left
    · rw [if_neg c49] at H
      exact absurd H (by simp)
    rw [if_pos c49] at H
    have c49b0 : decide ((rd x7_2 (ji39)) < (l0_3.length : Int)) = true := decide_eq_true c49
    have c49b0l := c49b0
    (try simp only [hl6_1, hl6_2] at c49b0l)
    clear c49
    obtain ⟨bq50, hbq50⟩ : ∃ b_ : Bool, b_ = (rdOf false l0_3 (rd x7_2 (ji39))) := ⟨_, rfl⟩
    replace H : (if (bq50 = true) then (if (rd x7_2 (ji39)) < (l0_1.length : Int) then (if y284.length + (rd_L1 l0_1 (rd x7_2 (ji39))).length < 17592186044416 then (loops_looker_loop.l1 k2 a1 (x6_2.set ((rd x7_2 (ji39)) : Int).toNat true) (y284 ++ (rd_L1 l0_1 (rd x7_2 (ji39)))) l0_0 l0_1 l0_2 l0_3) else (none)) else (none)) else (loops_looker_loop.l1 k2 a1 x6_2 y284 l0_0 l0_1 l0_2 l0_3)) = some (r1, r2, r3, r4) := by rw [← hbq50] at H; exact H
    have Nbq50 := Aside0.mk hbq50
    clear hbq50
    by_cases c51 : (bq50 = true)
    · subst c51
      have H1 : (if (rd x7_2 (ji39)) < (l0_1.length : Int) then (if y284.length + (rd_L1 l0_1 (rd x7_2 (ji39))).length < 17592186044416 then (loops_looker_loop.l1 k2 a1 (x6_2.set ((rd x7_2 (ji39)) : Int).toNat true) (y284 ++ (rd_L1 l0_1 (rd x7_2 (ji39)))) l0_0 l0_1 l0_2 l0_3) else (none)) else (none)) = some (r1, r2, r3, r4) := by rw [if_pos rfl] at H; exact H
      clear H
      have H := H1
      clear H1
      obtain ⟨y289, hy289⟩ : ∃ y_ : List Bool, y_ = (x6_2.set ((rd x7_2 (ji39)) : Int).toNat true) := ⟨_, rfl⟩
      replace H : (if (rd x7_2 (ji39)) < (l0_1.length : Int) then (if y284.length + (rd_L1 l0_1 (rd x7_2 (ji39))).length < 17592186044416 then (loops_looker_loop.l1 k2 a1 y289 (y284 ++ (rd_L1 l0_1 (rd x7_2 (ji39)))) l0_0 l0_1 l0_2 l0_3) else (none)) else (none)) = some (r1, r2, r3, r4) := by first | (rw [hy289]; with_reducible exact H) | (have H2_ := (Option.bind_some _ _).symm.trans H; rw [hy289]; with_reducible exact H2_) | exact H
      have Ny289 := Aside0.mk hy289
      clear hy289
      by_cases c53 : (rd x7_2 (ji39)) < (l0_1.length : Int)
      rotate_left
      · rw [if_neg c53] at H
        exact absurd H (by simp)
      rw [if_pos c53] at H
      have c53b0 : decide ((rd x7_2 (ji39)) < (l0_1.length : Int)) = true := decide_eq_true c53
      have c53b0l := c53b0
      (try simp only [hl6_1, hl6_2] at c53b0l)
      clear c53
      by_cases c54 : y284.length + (rd_L1 l0_1 (rd x7_2 (ji39))).length < 17592186044416
      rotate_left
      · rw [if_neg c54] at H
        exact absurd H (by simp)
      rw [if_pos c54] at H
      have LMc54 := Aside0.mk c54
      clear c54
      obtain ⟨y291, hy291⟩ : ∃ y_ : List Int, y_ = (y284 ++ (rd_L1 l0_1 (rd x7_2 (ji39)))) := ⟨_, rfl⟩
      replace H : (loops_looker_loop.l1 k2 a1 y289 y291 l0_0 l0_1 l0_2 l0_3) = some (r1, r2, r3, r4) := by first | (rw [hy291]; with_reducible exact H) | (have H2_ := (Option.bind_some _ _).symm.trans H; rw [hy291]; with_reducible exact H2_) | exact H
      have Ny291 := Aside0.mk hy291
      clear hy291
      have H' := Aside0.mk H
      clear H
      obtain ⟨Ao55, co55, eo55⟩ := Kd.R_slice HO_7.out
      subst eo55
      have p283 : 0 ≤ ((ji39) : Int) := of_decide_eq_true (by with_reducible assumption)
      have q283 : (ji39) < (x7_2.length : Int) := of_decide_eq_true (by with_reducible assumption)
      obtain ⟨ad283, e283, hx283_0⟩ := Kd.at_int (R_reads' HO_7.out).2.2 (ji39) p283 q283
      cases e283
      replace p283 := eq_true p283
      replace q283 := eq_true q283
      have q56 : ((ji39) : Int) ≤ ((x7_2.length : Int) : Int) := of_decide_eq_true (by with_reducible assumption)
      obtain ⟨i056, hi056, _, hsz56, _⟩ := info_parts info3
      have hcut56 := cut_to (P := Try.prog) 22 3 .i64 Try.underlying22 hi056 (some ad283) x7_2.length co55 (ji39) (of_decide_eq_true (by with_reducible assumption)) q56 (R_reads' HO_7.out).2.1
      have hr56 := Kd.R_take (m := ((ji39) : Int).toNat) HO_7.out (by omega)
      have hy56 : y284.length = ((ji39) : Int).toNat := (by rw [Ny284.out, List.length_take]; omega)
      rw [← Ny284.out] at hr56
      rw [← hy56] at hr56 hcut56
      clear hy56 hi056 hsz56 HO_7
      have HO286 := Aside0.mk hr56
      clear hr56
      replace q56 := eq_true q56
      have p287 : 0 ≤ ((rd x7_2 (ji39)) : Int) := of_decide_eq_true (by with_reducible assumption)
      have q287 : (rd x7_2 (ji39)) < (x6_2.length : Int) := of_decide_eq_true (by with_reducible assumption)
      obtain ⟨ad287, e287, hx287_0⟩ := Kd.at_bool (R_reads' HO_6.out).2.2 (rd x7_2 (ji39)) p287 q287
      (try rw [← Nbq45.out] at hx287_0)
      (try rw [← Nbq50.out] at hx287_0)
      obtain rfl : (⟨go7, 0, none⟩ : Addr) = ad287 := (by injection e287)
      (first | simp only [add_plain] at hx287_0 | simp only [add_at] at hx287_0 | simp only [Addr.add, Nat.zero_add] at hx287_0 | skip)
      replace p287 := eq_true p287
      replace q287 := eq_true q287
      have hnb57 := NB270_271.out
      have hnc57 := NB271_270.out
      have hcz58_0 : wr.cell? ⟨gb270, 0, none⟩ = some (.slice A0_0 l0_0.length c0_0) := (blk_cell BK270.out 0).trans rfl
      have hcz58_1 : wr.cell? ⟨gb270, 1, none⟩ = some (.slice (some ad276) l0_1.length c0_1) := (blk_cell BK270.out 1).trans rfl
      have hcz58_2 : wr.cell? ⟨gb270, 2, none⟩ = some (.slice A0_2 l0_2.length c0_2) := (blk_cell BK270.out 2).trans rfl
      have hcz58_3 : wr.cell? ⟨gb270, 3, none⟩ = some (.slice A0_3 l0_3.length c0_3) := (blk_cell BK270.out 3).trans rfl
      have hfz58_0 := blk_frozen BK270.out 0
      have hfz58_1 := blk_frozen BK270.out 1
      have hfz58_2 := blk_frozen BK270.out 2
      have hfz58_3 := blk_frozen BK270.out 3
      have p288 : 0 ≤ ((rd x7_2 (ji39)) : Int) := of_decide_eq_true (by with_reducible assumption)
      have q288 : (rd x7_2 (ji39)) < (l0_3.length : Int) := of_decide_eq_true (by with_reducible assumption)
      obtain ⟨ad288, e288, hx288_0⟩ := Kd.at_bool HR0_3.out (rd x7_2 (ji39)) p288 q288
      (try rw [← Nbq45.out] at hx288_0)
      (try rw [← Nbq50.out] at hx288_0)
      cases e288
      replace hx288_0 := (HB.out.cell (World.block_lt_of_cell? w _ hx288_0)).trans hx288_0
      replace p288 := eq_true p288
      replace q288 := eq_true q288
      have p52 : 0 ≤ ((rd x7_2 (ji39)) : Int) := of_decide_eq_true (by with_reducible assumption)
      have q52 : ((rd x7_2 (ji39)) : Int) < ((x6_2.length : Int) : Int) := of_decide_eq_true (by with_reducible assumption)
      obtain ⟨hx52_0, hf52_0⟩ := Kd.R_celln false HO_6.out ((rd x7_2 (ji39)) : Int) p52 q52
      replace p52 := eq_true p52
      replace q52 := eq_true q52
      have HP59 := Kd.R_putg HO_6.out ((rd x7_2 (ji39)) : Int) true
      go_wp2_with (first | ((with_reducible refine gate_store (t := 4) (p := 78) rfl ?_); refine store_event (t := 4) (p := 78) (v := ?vo_w60) (w1 := (wr.setCell ⟨go7, ((rd x7_2 (ji39)) : Int).toNat, none⟩ (.bool true))) ?hg ?ho ?hn ?hr ?_; (case ho => rfl); (case hg => rfl); (case hn => rfl); (case hr => first | (go_simp; done) | (go_simp; rfl)); intro w60 hw; have hg : wr.grownBy w60 (some go7) := (by rw [hw]; exact HP59.2); have hp_ : Kd.R Kd.bool 4 w60 w.heap.size (fun _ => True) (.slice (some ⟨go7, 0, none⟩) x6_2.length co7) y289 := (by rw [hw, Ny289.out]; exact HP59.1); clear HP59; have n0_ := Aside0.mk (hp_); have n1_ := Aside0.mk (Kd.R_over' (v := (.slice (some ⟨go7, 0, none⟩) x6_2.length co7)) (ru HO286.out) (Kd.R_typed HO_6.out) (by decide) hg); have n2_ := Aside0.mk (blk_grown (bu BK270.out) hg (Kd.R_ne HO_6.out BK270.out (by decide))); have n3_ := Aside0.mk (blk_grown (bu BK271.out) hg (Kd.R_ne HO_6.out BK271.out (by decide))); have n4_ := Aside0.mk ((by rw [hw]; exact below_set (HB.out) GB7.out : Below w.heap.size w w60)); clear HO_6; clear HO286; clear BK270; clear BK271; clear HB; have HO_6 := n0_; have HO286 := n1_; have BK270 := n2_; have BK271 := n3_; have HB := n4_; clear n0_ n1_ n2_ n3_ n4_; clear hg hw hp_; have hcz61_0 : w60.cell? ⟨gb270, 0, none⟩ = some (.slice A0_0 l0_0.length c0_0) := (blk_cell BK270.out 0).trans rfl; have hcz61_1 : w60.cell? ⟨gb270, 1, none⟩ = some (.slice (some ad276) l0_1.length c0_1) := (blk_cell BK270.out 1).trans rfl; have hcz61_2 : w60.cell? ⟨gb270, 2, none⟩ = some (.slice A0_2 l0_2.length c0_2) := (blk_cell BK270.out 2).trans rfl; have hcz61_3 : w60.cell? ⟨gb270, 3, none⟩ = some (.slice (some ad288) l0_3.length c0_3) := (blk_cell BK270.out 3).trans rfl; have hfz61_0 := blk_frozen BK270.out 0; have hfz61_1 := blk_frozen BK270.out 1; have hfz61_2 := blk_frozen BK270.out 2; have hfz61_3 := blk_frozen BK270.out 3; have p290 : 0 ≤ ((rd x7_2 (ji39)) : Int) := of_decide_eq_true (by with_reducible assumption); have q290 : (rd x7_2 (ji39)) < (l0_1.length : Int) := of_decide_eq_true (by with_reducible assumption); obtain ⟨ad290, A290_0, c290_0, e290, hx290_0, hl290_0, hi290_0⟩ := at_L1 HR0_1.out (rd x7_2 (ji39)) p290 q290; obtain rfl : ad276 = ad290 := (by injection e290); replace hx290_0 := (HB.out.cell (World.block_lt_of_cell? w _ hx290_0)).trans hx290_0; have HR290_0 := Aside0.mk hi290_0; have HC290_0 := Aside0.mk hl290_0; clear hi290_0 hl290_0; replace p290 := eq_true p290; replace q290 := eq_true q290) | ((with_reducible refine gate_builtin (b := .append) (xs := #[.tmp 79, .tmp 84]) rfl ?_); at_builtin; refine Kd.R_append_rows (Kd.int .i64) (w0 := w) w.heap.size rfl (.tmp 79) (.tmp 84) 22 3 (.int .i64 0) 8 rfl Try.underlying22 info3 rfl (by decide) (by omega) (.slice (some ad283) y284.length co55) y284 (rd_L1 l0_1 (rd x7_2 (ji39))) _ _ _ (fun _ => True) (fun _ => False) rfl rfl ?aO ?aR (fun _ _ h => h) (fun _ h => h.elim) ?aF ?aB ?aS ?aL ?_; (case aR => exact cu (C_below HR290_0.out HB.out)); (case aB => exact (lu HB.out)); (case aF => exact (fun _ _ => trivial)); (case aO => exact (ru HO286.out)); (case aS => exact (below_size (lu HB.out))); (case aL => have := LMc54.out; omega); intro v292 w62 ho hb hg hat; rw [← Ny291.out] at ho; have n0_ := Aside0.mk (Kd.R_over' (ru HO_6.out) (Kd.R_typed (ru HO286.out)) (by decide) hg); have n1_ := Aside0.mk (blk_grown (bu BK270.out) hg (Kd.R_ne HO286.out BK270.out (by decide))); have n2_ := Aside0.mk (blk_grown (bu BK271.out) hg (Kd.R_ne HO286.out BK271.out (by decide))); have n3_ := Aside0.mk (hb); have n4_ := Aside0.mk (ho); clear HO_6; clear BK270; clear BK271; clear HB; clear HO286; have HO_6 := n0_; have BK270 := n1_; have BK271 := n2_; have HB := n3_; have HO293 := n4_; clear n0_ n1_ n2_ n3_ n4_; clear ho hb hg hat))
      (try simp only [← hl6_2])
      go_roundg k2
      case measure => have := HK1.out; have := HK2.out; omega
      case rel => exact ⟨(y289), (y291), H', ⟨by have := HK1.out; have := HK2.out; omega⟩, ⟨by (try simp only [hl6_1]); (try simp only [hl6_2]); (with_reducible repeat (first | apply R_alloc | apply R_drewN | apply R_drew)); exact HO_6.out⟩, ⟨by (try simp only [hl6_1]); (try simp only [hl6_2]); (with_reducible repeat (first | apply R_alloc | apply R_drewN | apply R_drew)); exact HO293.out⟩, ⟨by (try simp only [hl6_1]); (try simp only [hl6_2]); (with_reducible repeat (first | refine blk_drewN ?_ _ | refine blk_drew ?_ | refine blk_alloc ?_ _)); exact BK270.out⟩, ⟨by (try simp only [hl6_1]); (try simp only [hl6_2]); (with_reducible repeat (first | refine blk_drewN ?_ _ | refine blk_drew ?_ | refine blk_alloc ?_ _)); exact BK271.out⟩, ⟨lu HB.out⟩⟩
    replace c51 := Bool.eq_false_iff.mpr c51
    subst c51
    have H1 : (loops_looker_loop.l1 k2 a1 x6_2 y284 l0_0 l0_1 l0_2 l0_3) = some (r1, r2, r3, r4) := by rw [if_neg (show ¬ (false = true) by decide)] at H; exact H
    clear H
    have H := H1
    clear H1
    have H' := Aside0.mk H
    clear H
    obtain ⟨Ao63, co63, eo63⟩ := Kd.R_slice HO_7.out
    subst eo63
    have p283 : 0 ≤ ((ji39) : Int) := of_decide_eq_true (by with_reducible assumption)
    have q283 : (ji39) < (x7_2.length : Int) := of_decide_eq_true (by with_reducible assumption)
    obtain ⟨ad283, e283, hx283_0⟩ := Kd.at_int (R_reads' HO_7.out).2.2 (ji39) p283 q283
    cases e283
    replace p283 := eq_true p283
    replace q283 := eq_true q283
    have q64 : ((ji39) : Int) ≤ ((x7_2.length : Int) : Int) := of_decide_eq_true (by with_reducible assumption)
    obtain ⟨i064, hi064, _, hsz64, _⟩ := info_parts info3
    have hcut64 := cut_to (P := Try.prog) 22 3 .i64 Try.underlying22 hi064 (some ad283) x7_2.length co63 (ji39) (of_decide_eq_true (by with_reducible assumption)) q64 (R_reads' HO_7.out).2.1
    have hr64 := Kd.R_take (m := ((ji39) : Int).toNat) HO_7.out (by omega)
    have hy64 : y284.length = ((ji39) : Int).toNat := (by rw [Ny284.out, List.length_take]; omega)
    rw [← Ny284.out] at hr64
    rw [← hy64] at hr64 hcut64
    clear hy64 hi064 hsz64 HO_7
    have HO286 := Aside0.mk hr64
    clear hr64
    replace q64 := eq_true q64
    have p287 : 0 ≤ ((rd x7_2 (ji39)) : Int) := of_decide_eq_true (by with_reducible assumption)
    have q287 : (rd x7_2 (ji39)) < (x6_2.length : Int) := of_decide_eq_true (by with_reducible assumption)
    obtain ⟨ad287, e287, hx287_0⟩ := Kd.at_bool (R_reads' HO_6.out).2.2 (rd x7_2 (ji39)) p287 q287
    (try rw [← Nbq45.out] at hx287_0)
    (try rw [← Nbq50.out] at hx287_0)
    obtain rfl : (⟨go7, 0, none⟩ : Addr) = ad287 := (by injection e287)
    (first | simp only [add_plain] at hx287_0 | simp only [add_at] at hx287_0 | simp only [Addr.add, Nat.zero_add] at hx287_0 | skip)
    replace p287 := eq_true p287
    replace q287 := eq_true q287
    have hnb65 := NB270_271.out
    have hnc65 := NB271_270.out
    have hcz66_0 : wr.cell? ⟨gb270, 0, none⟩ = some (.slice A0_0 l0_0.length c0_0) := (blk_cell BK270.out 0).trans rfl
    have hcz66_1 : wr.cell? ⟨gb270, 1, none⟩ = some (.slice (some ad276) l0_1.length c0_1) := (blk_cell BK270.out 1).trans rfl
    have hcz66_2 : wr.cell? ⟨gb270, 2, none⟩ = some (.slice A0_2 l0_2.length c0_2) := (blk_cell BK270.out 2).trans rfl
    have hcz66_3 : wr.cell? ⟨gb270, 3, none⟩ = some (.slice A0_3 l0_3.length c0_3) := (blk_cell BK270.out 3).trans rfl
    have hfz66_0 := blk_frozen BK270.out 0
    have hfz66_1 := blk_frozen BK270.out 1
    have hfz66_2 := blk_frozen BK270.out 2
    have hfz66_3 := blk_frozen BK270.out 3
    have p288 : 0 ≤ ((rd x7_2 (ji39)) : Int) := of_decide_eq_true (by with_reducible assumption)
    have q288 : (rd x7_2 (ji39)) < (l0_3.length : Int) := of_decide_eq_true (by with_reducible assumption)
    obtain ⟨ad288, e288, hx288_0⟩ := Kd.at_bool HR0_3.out (rd x7_2 (ji39)) p288 q288
    (try rw [← Nbq45.out] at hx288_0)
    (try rw [← Nbq50.out] at hx288_0)
    cases e288
    replace hx288_0 := (HB.out.cell (World.block_lt_of_cell? w _ hx288_0)).trans hx288_0
    replace p288 := eq_true p288
    replace q288 := eq_true q288
    go_wp2
    (try simp only [← hl6_2])
    go_roundg k2
    case measure => have := HK1.out; have := HK2.out; omega
    case rel => exact ⟨(x6_2), (y284), H', ⟨by have := HK1.out; have := HK2.out; omega⟩, ⟨by (try simp only [hl6_1]); (try simp only [hl6_2]); (with_reducible repeat (first | apply R_alloc | apply R_drewN | apply R_drew)); exact HO_6.out⟩, ⟨by (try simp only [hl6_1]); (try simp only [hl6_2]); (with_reducible repeat (first | apply R_alloc | apply R_drewN | apply R_drew)); exact HO286.out⟩, ⟨by (try simp only [hl6_1]); (try simp only [hl6_2]); (with_reducible repeat (first | refine blk_drewN ?_ _ | refine blk_drew ?_ | refine blk_alloc ?_ _)); exact BK270.out⟩, ⟨by (try simp only [hl6_1]); (try simp only [hl6_2]); (with_reducible repeat (first | refine blk_drewN ?_ _ | refine blk_drew ?_ | refine blk_alloc ?_ _)); exact BK271.out⟩, ⟨lu HB.out⟩⟩
  rw [if_neg c38] at H
  have c38b0 : decide (0 < (x7_2.length : Int)) = false := decide_eq_false c38
  (try simp only [hl6_1, hl6_2] at c38b0)
  have c38b1 : decide (0 < x7_2.length) = false := decide_eq_false (by omega)
  clear c38
  have H' := Aside0.mk H
  clear H
  obtain ⟨Ao67, co67, eo67⟩ := Kd.R_slice HO_7.out
  subst eo67
  go_wp2_with (first | ((with_reducible refine gate_dst (N := 11) rfl ?_); refine box_event ?hg (N := 11) ?hd (cs := #[.int .i64 0, .slice none 0 0, .slice none 0 0]) (t := 44) ?hr ?_; (case hd => rfl); (case hg => rfl); (case hr => first | (go_simp; done) | (go_simp; rfl)); intro gb294 hg w68 hbox hb; have n0_ := Aside0.mk (Kd.R_below (ru HO_6.out) hb); have n1_ := Aside0.mk (Kd.R_below (ru HO_7.out) hb); have n2_ := Aside0.mk (blk_below (bu BK270.out) hb); have n3_ := Aside0.mk (blk_below (bu BK271.out) hb); have n4_ := Aside0.mk (below_step (lu HB.out) hb); have n5_ := Aside0.mk (hbox); have n6_ := Aside0.mk ((by rw [hg]; exact (below_size (lu HB.out)) : w.heap.size ≤ gb294)); have n7_ := Aside0.mk ((by rw [hg]; exact (below_size (lu HB.out)) : w.heap.size ≤ gb294)); have n8_ := Aside0.mk ((by rw [hg]; exact Nat.ne_of_lt (blk_lt (bu BK270.out)) : gb270 ≠ gb294)); have n9_ := Aside0.mk ((by rw [hg]; exact Nat.ne_of_gt (blk_lt (bu BK270.out)) : gb294 ≠ gb270)); have n10_ := Aside0.mk ((by rw [hg]; exact Nat.ne_of_lt (blk_lt (bu BK271.out)) : gb271 ≠ gb294)); have n11_ := Aside0.mk ((by rw [hg]; exact Nat.ne_of_gt (blk_lt (bu BK271.out)) : gb294 ≠ gb271)); clear HO_6; clear HO_7; clear BK270; clear BK271; clear HB; have HO_6 := n0_; have HO_7 := n1_; have BK270 := n2_; have BK271 := n3_; have HB := n4_; have BK294 := n5_; have GW294 := n6_; have GE294 := n7_; have NB270_294 := n8_; have NB294_270 := n9_; have NB271_294 := n10_; have NB294_271 := n11_; clear n0_ n1_ n2_ n3_ n4_ n5_ n6_ n7_ n8_ n9_ n10_ n11_; clear hb hbox hg; have hnb69 := NB294_270.out; have hnc69 := NB270_294.out; have hnb70 := NB294_271.out; have hnc70 := NB271_294.out; have hcz71_0 : w68.cell? ⟨gb294, 0, none⟩ = some (.int .i64 0) := (blk_cell BK294.out 0).trans rfl; have hcz71_1 : w68.cell? ⟨gb294, 1, none⟩ = some (.slice none 0 0) := (blk_cell BK294.out 1).trans rfl; have hcz71_2 : w68.cell? ⟨gb294, 2, none⟩ = some (.slice none 0 0) := (blk_cell BK294.out 2).trans rfl; have hfz71_0 := blk_frozen BK294.out 0; have hfz71_1 := blk_frozen BK294.out 1; have hfz71_2 := blk_frozen BK294.out 2))
  go_loopg [90] k2 (fun kq v90 w' => ∃ (x90_3 : Int) (x295001_3 : List Int) (u295001 : Value), v90 = .int .i64 x90_3 ∧ Aside0 (loops_looker_loop.l2 kq a1 x6_2 x6_2 (x6_2.length : Int) x90_3 l0_0 l0_1 l0_2 l0_3 a1 x295001_3 = some (r1, r2, r3, r4)) ∧ Aside0 (kq ≤ k2) ∧ Aside0 (Kd.R Kd.bool 4 w' w.heap.size (fun _ => True) (.slice (some ⟨go7, 0, none⟩) x6_2.length co7) x6_2) ∧ Aside0 (Kd.R Kd.bool 4 w' w.heap.size (fun _ => True) (.slice (some ⟨go7, 0, none⟩) x6_2.length co7) x6_2) ∧ Aside0 (Kd.R (Kd.int .i64) 3 w' w.heap.size (fun _ => True) u295001 x295001_3) ∧ Aside0 (w'.heap[gb270]? = some (.cells #[(.slice A0_0 l0_0.length c0_0), (.slice (some ad276) l0_1.length c0_1), (.slice A0_2 l0_2.length c0_2), (.slice A0_3 l0_3.length c0_3)] 67 (0, 0))) ∧ Aside0 (w'.heap[gb271]? = some (.cells #[.int .i64 0, (.slice none 0 0), (.slice none 0 0)] 44 (0, 0))) ∧ Aside0 (w'.heap[gb294]? = some (.cells #[.int .i64 a1, u295001, (.slice none 0 0)] 44 (0, 0))) ∧ Aside0 (Below w.heap.size w w'))
  case atStart => exact ⟨(0), (([] : List Int)), (.slice none 0 0), (by first | rfl | (simp; done) | (simp [*]; done)), H', ⟨Nat.le_refl _⟩, ⟨by (try simp only [hl6_1]); (try simp only [hl6_2]); (with_reducible repeat (first | apply R_alloc | apply R_drewN | apply R_drew)); exact R_mono (Kd.R_far (p := ⟨gb294, 2, none⟩) (Kd.R_far (p := ⟨gb294, 1, none⟩) (Kd.R_far (p := ⟨gb294, 0, none⟩) (Kd.R_types HO_6.out BK294.out (by decide)) (fun _ hk => hk.2) (.int .i64 a1)) (fun _ hk => hk.2) (.slice none 0 0)) (fun _ hk => hk.2) (.slice none 0 0)) (fun _ hk => trivial)⟩, ⟨by (try simp only [hl6_1]); (try simp only [hl6_2]); (with_reducible repeat (first | apply R_alloc | apply R_drewN | apply R_drew)); exact R_mono (Kd.R_far (p := ⟨gb294, 2, none⟩) (Kd.R_far (p := ⟨gb294, 1, none⟩) (Kd.R_far (p := ⟨gb294, 0, none⟩) (Kd.R_types HO_6.out BK294.out (by decide)) (fun _ hk => hk.2) (.int .i64 a1)) (fun _ hk => hk.2) (.slice none 0 0)) (fun _ hk => hk.2) (.slice none 0 0)) (fun _ hk => trivial)⟩, ⟨by (try simp only [hl6_1]); (try simp only [hl6_2]); first | exact Kd.R_nil _ _ _ _ _ | exact Kd.N_nil _ _ _ _ _ | exact Kd.V_nil _ _ _ _ _ | exact Kd.Q_nil _ _ _ _ _ | exact Kd.S_nil _ _ _ _ _⟩, ⟨by (try simp only [hl6_1]); (try simp only [hl6_2]); (with_reducible repeat (first | refine blk_drewN ?_ _ | refine blk_drew ?_ | refine blk_alloc ?_ _)); refine blk_far ?_ NB270_294.out _; (with_reducible repeat (first | refine blk_drewN ?_ _ | refine blk_drew ?_ | refine blk_alloc ?_ _)); refine blk_far ?_ NB270_294.out _; (with_reducible repeat (first | refine blk_drewN ?_ _ | refine blk_drew ?_ | refine blk_alloc ?_ _)); refine blk_far ?_ NB270_294.out _; (with_reducible repeat (first | refine blk_drewN ?_ _ | refine blk_drew ?_ | refine blk_alloc ?_ _)); exact BK270.out⟩, ⟨by (try simp only [hl6_1]); (try simp only [hl6_2]); (with_reducible repeat (first | refine blk_drewN ?_ _ | refine blk_drew ?_ | refine blk_alloc ?_ _)); refine blk_far ?_ NB271_294.out _; (with_reducible repeat (first | refine blk_drewN ?_ _ | refine blk_drew ?_ | refine blk_alloc ?_ _)); refine blk_far ?_ NB271_294.out _; (with_reducible repeat (first | refine blk_drewN ?_ _ | refine blk_drew ?_ | refine blk_alloc ?_ _)); refine blk_far ?_ NB271_294.out _; (with_reducible repeat (first | refine blk_drewN ?_ _ | refine blk_drew ?_ | refine blk_alloc ?_ _)); exact BK271.out⟩, ⟨by (try simp only [hl6_1]); (try simp only [hl6_2]); (with_reducible repeat (first | refine blk_drewN ?_ _ | refine blk_drew ?_ | refine blk_alloc ?_ _)); refine blk_put (cs := #[.int .i64 a1, .slice none 0 0, .slice none 0 0]) ?_ 2 _ rfl; (with_reducible repeat (first | refine blk_drewN ?_ _ | refine blk_drew ?_ | refine blk_alloc ?_ _)); refine blk_put (cs := #[.int .i64 a1, .slice none 0 0, .slice none 0 0]) ?_ 1 _ rfl; (with_reducible repeat (first | refine blk_drewN ?_ _ | refine blk_drew ?_ | refine blk_alloc ?_ _)); refine blk_put (cs := #[.int .i64 0, .slice none 0 0, .slice none 0 0]) ?_ 0 _ rfl; (with_reducible repeat (first | refine blk_drewN ?_ _ | refine blk_drew ?_ | refine blk_alloc ?_ _)); exact BK294.out⟩, ⟨by repeat (first | (with_reducible first | exact HB.out | apply below_alloc | apply pw_below_drewN | apply below_drew1 | refine below_set ?_ GE270.out | refine below_set ?_ GE271.out | refine below_set ?_ GE294.out) | exact HB.out)⟩⟩
  clear H'
  try clear c1
  try clear c2
  try clear p2
  try clear q2
  try clear hx2
  try clear c3
  try clear c3b0
  try clear c3b1
  try clear c4
  try clear c4b0
  try clear c4b1
  try clear q4
  try clear c5
  try clear c5b0
  try clear p5
  try clear q5
  try clear hx5
  try clear hf5
  try clear c6
  try clear c6b0
  try clear p6
  try clear q6
  try clear c7
  try clear p7
  try clear q7
  try clear hx7
  try clear hf7
  try clear c8
  try clear c8b0
  try clear c11
  try clear c18
  try clear c18b0
  try clear c19
  try clear c19b0
  try clear c20
  try clear c20b0
  try clear c21
  try clear c21b0
  try clear c22
  try clear c22b0
  try clear c23
  try clear c23b0
  try clear c24
  try clear c24b0
  try clear q25
  try clear c26
  try clear c27
  try clear p27
  try clear q27
  try clear hx27
  try clear c28
  try clear p28
  try clear q28
  try clear hx28
  try clear c29
  try clear p29
  try clear q29
  try clear hx29
  try clear c31
  try clear c33
  try clear c33b0
  try clear c33b1
  try clear c33b2
  try clear c35
  try clear c38
  try clear c38b0
  try clear c38b1
  try clear c40
  try clear c40b0
  try clear c41
  try clear c41b0
  try clear c42
  try clear c42b0
  try clear c42b1
  try clear c43
  try clear c43b0
  try clear c44
  try clear c44b0
  try clear q45
  try clear c46
  try clear q48
  try clear c49
  try clear c49b0
  try clear q50
  try clear c51
  try clear p52
  try clear q52
  try clear hx52
  try clear hf52
  try clear c53
  try clear c53b0
  try clear c54
  try clear q56
  try clear c57
  try clear p64
  try clear q64
  try clear c65
  try clear c69
  try clear c70
  try clear hcz12_0
  try clear hcz12_1
  try clear hcz12_2
  try clear hcz12_3
  try clear hcz17_0
  try clear hcz17_1
  try clear hcz17_2
  try clear hcz17_3
  try clear hcz29_0
  try clear hcz29_1
  try clear hcz29_2
  try clear hcz29_3
  try clear hcz32_0
  try clear hcz32_1
  try clear hcz32_2
  try clear hcz32_3
  try clear hcz36_0
  try clear hcz36_1
  try clear hcz36_2
  try clear hcz58_0
  try clear hcz58_1
  try clear hcz58_2
  try clear hcz58_3
  try clear hcz61_0
  try clear hcz61_1
  try clear hcz61_2
  try clear hcz61_3
  try clear hcz66_0
  try clear hcz66_1
  try clear hcz66_2
  try clear hcz66_3
  try clear hcz71_0
  try clear hcz71_1
  try clear hcz71_2
  try clear hfz12_0
  try clear hfz12_1
  try clear hfz12_2
  try clear hfz12_3
  try clear hfz17_0
  try clear hfz17_1
  try clear hfz17_2
  try clear hfz17_3
  try clear hfz29_0
  try clear hfz29_1
  try clear hfz29_2
  try clear hfz29_3
  try clear hfz32_0
  try clear hfz32_1
  try clear hfz32_2
  try clear hfz32_3
  try clear hfz36_0
  try clear hfz36_1
  try clear hfz36_2
  try clear hfz58_0
  try clear hfz58_1
  try clear hfz58_2
  try clear hfz58_3
  try clear hfz61_0
  try clear hfz61_1
  try clear hfz61_2
  try clear hfz61_3
  try clear hfz66_0
  try clear hfz66_1
  try clear hfz66_2
  try clear hfz66_3
  try clear hfz71_0
  try clear hfz71_1
  try clear hfz71_2
  try clear hx276_0
  try clear hx277_0
  try clear hx278_0
  try clear hx279_0
  try clear hx283_0
  try clear hx287_0
  try clear hx288_0
  try clear hx290_0
  try clear hx52_0
  try clear hx7_0
  try clear p2
  try clear p27
  try clear p276
  try clear p277
  try clear p278
  try clear p279
  try clear p283
  try clear p287
  try clear p288
  try clear p290
  try clear p52
  try clear p6
  try clear p7
  try clear q2
  try clear q25
  try clear q27
  try clear q276
  try clear q277
  try clear q278
  try clear q279
  try clear q283
  try clear q287
  try clear q288
  try clear q290
  try clear q48
  try clear q52
  try clear q56
  try clear q64
  try clear q7
  obtain ⟨x90_3, x295001_3, u295001, rfl, HA, HK3, HO_6, HO_88, HO_295001, BK270, BK271, BK294, HB⟩ := hrel
  rcases gk with _ | k3
  · exact absurd HA.out (by simp [loops_looker_loop.l2])
  have H := HA.out
  clear HA
  simp only [loops_looker_loop.l2] at H
  by_cases c72 : x90_3 < (x6_2.length : Int)
  · rw [if_pos c72] at H
    have c72b0 : decide (x90_3 < (x6_2.length : Int)) = true := decide_eq_true c72
    have c72b0l := c72b0
    (try simp only [hl6_1, hl6_2] at c72b0l)
    clear c72
    by_cases c73 : 0 ≤ x90_3
    rotate_left
    · rw [if_neg c73] at H
      exact absurd H (by simp)
    rw [if_pos c73] at H
    have c73b0 : decide (0 ≤ x90_3) = true := decide_eq_true c73
    clear c73
    by_cases c74 : x90_3 < (x6_2.length : Int)
    rotate_left
    · rw [if_neg c74] at H
      exact absurd H (by simp)
    rw [if_pos c74] at H
    have c74b0 : decide (x90_3 < (x6_2.length : Int)) = true := decide_eq_true c74
    have c74b0l := c74b0
    (try simp only [hl6_1, hl6_2] at c74b0l)
    clear c74
    obtain ⟨bq75, hbq75⟩ : ∃ b_ : Bool, b_ = (rdOf false x6_2 x90_3) := ⟨_, rfl⟩
    replace H : (if bq75 = true then (if x295001_3.length < 17592186044416 then (loops_looker_loop.l2 k3 a1 x6_2 x6_2 (x6_2.length : Int) (wrap64 (x90_3 + 1)) l0_0 l0_1 l0_2 l0_3 a1 (x295001_3 ++ [x90_3])) else (none)) else (loops_looker_loop.l2 k3 a1 x6_2 x6_2 (x6_2.length : Int) (wrap64 (x90_3 + 1)) l0_0 l0_1 l0_2 l0_3 a1 x295001_3)) = some (r1, r2, r3, r4) := by rw [← hbq75] at H; exact H
    have Nbq75 := Aside0.mk hbq75
    clear hbq75
    by_cases c76 : bq75 = true
    · subst c76
      have H1 : (if x295001_3.length < 17592186044416 then (loops_looker_loop.l2 k3 a1 x6_2 x6_2 (x6_2.length : Int) (wrap64 (x90_3 + 1)) l0_0 l0_1 l0_2 l0_3 a1 (x295001_3 ++ [x90_3])) else (none)) = some (r1, r2, r3, r4) := by rw [if_pos rfl] at H; exact H
      clear H
      have H := H1
      clear H1
      by_cases c77 : x295001_3.length < 17592186044416
      rotate_left
      · rw [if_neg c77] at H
        exact absurd H (by simp)
      rw [if_pos c77] at H
      have LMc77 := Aside0.mk c77
      clear c77
      obtain ⟨y296, hy296⟩ : ∃ y_ : List Int, y_ = (x295001_3 ++ [x90_3]) := ⟨_, rfl⟩
      replace H : (loops_looker_loop.l2 k3 a1 x6_2 x6_2 (x6_2.length : Int) (wrap64 (x90_3 + 1)) l0_0 l0_1 l0_2 l0_3 a1 y296) = some (r1, r2, r3, r4) := by first | (rw [hy296]; with_reducible exact H) | (have H2_ := (Option.bind_some _ _).symm.trans H; rw [hy296]; with_reducible exact H2_) | exact H
      have Ny296 := Aside0.mk hy296
      clear hy296
      have H' := Aside0.mk H
      clear H
      have p295 : 0 ≤ (x90_3 : Int) := of_decide_eq_true (by with_reducible assumption)
      have q295 : x90_3 < (x6_2.length : Int) := of_decide_eq_true (by with_reducible assumption)
      obtain ⟨ad295, e295, hx295_0⟩ := Kd.at_bool (R_reads' HO_88.out).2.2 x90_3 p295 q295
      (try rw [← Nbq75.out] at hx295_0)
      obtain rfl : (⟨go7, 0, none⟩ : Addr) = ad295 := (by injection e295)
      (first | simp only [add_plain] at hx295_0 | simp only [add_at] at hx295_0 | simp only [Addr.add, Nat.zero_add] at hx295_0 | skip)
      replace p295 := eq_true p295
      replace q295 := eq_true q295
      have hnb78 := NB294_270.out
      have hnc78 := NB270_294.out
      have hnb79 := NB294_271.out
      have hnc79 := NB271_294.out
      have hcz80_0 : wr.cell? ⟨gb294, 0, none⟩ = some (.int .i64 a1) := (blk_cell BK294.out 0).trans rfl
      have hcz80_1 : wr.cell? ⟨gb294, 1, none⟩ = some (u295001) := (blk_cell BK294.out 1).trans rfl
      have hcz80_2 : wr.cell? ⟨gb294, 2, none⟩ = some (.slice none 0 0) := (blk_cell BK294.out 2).trans rfl
      have hfz80_0 := blk_frozen BK294.out 0
      have hfz80_1 := blk_frozen BK294.out 1
      have hfz80_2 := blk_frozen BK294.out 2
      go_wp2_with (first | ((with_reducible refine gate_builtin (b := .append) (xs := #[.tmp 97, .tmp 99]) rfl ?_); at_builtin; refine Kd.R_append (Kd.int .i64) (w0 := w) w.heap.size rfl (.tmp 97) (.tmp 99) 22 3 (.int .i64 0) 8 rfl Try.underlying22 info3 rfl (by decide) (by omega) u295001 x295001_3 x90_3 [.int .i64 x90_3] (fun _ => True) (fun _ => False) rfl rfl ?aP (fun _ hk => hk.elim) ?aF ?aO ?aB ?aS ?aL ?_; (case aP => exact rfl); (case aB => exact (lu HB.out)); (case aF => exact (fun _ _ => trivial)); (case aO => exact (ru HO_295001.out)); (case aS => exact (below_size (lu HB.out))); (case aL => have := LMc77.out; omega); intro v297 w81 ho hb hg hat; rw [← Ny296.out] at ho; have n0_ := Aside0.mk (Kd.R_over' (ru HO_6.out) (Kd.R_typed (ru HO_295001.out)) (by decide) hg); have n1_ := Aside0.mk (Kd.R_over' (ru HO_88.out) (Kd.R_typed (ru HO_295001.out)) (by decide) hg); have n2_ := Aside0.mk (blk_grown (bu BK270.out) hg (Kd.R_ne HO_295001.out BK270.out (by decide))); have n3_ := Aside0.mk (blk_grown (bu BK271.out) hg (Kd.R_ne HO_295001.out BK271.out (by decide))); have n4_ := Aside0.mk (blk_grown (bu BK294.out) hg (Kd.R_ne HO_295001.out BK294.out (by decide))); have n5_ := Aside0.mk (hb); have n6_ := Aside0.mk (ho); clear HO_6; clear HO_88; clear BK270; clear BK271; clear BK294; clear HB; clear HO_295001; have HO_6 := n0_; have HO_88 := n1_; have BK270 := n2_; have BK271 := n3_; have BK294 := n4_; have HB := n5_; have HO298 := n6_; clear n0_ n1_ n2_ n3_ n4_ n5_ n6_; clear ho hb hg hat; obtain ⟨Ao82, co82, eo82⟩ := Kd.R_slice HO298.out; subst eo82; have hcz83_0 : w81.cell? ⟨gb294, 0, none⟩ = some (.int .i64 a1) := (blk_cell BK294.out 0).trans rfl; have hcz83_1 : w81.cell? ⟨gb294, 1, none⟩ = some (u295001) := (blk_cell BK294.out 1).trans rfl; have hcz83_2 : w81.cell? ⟨gb294, 2, none⟩ = some (.slice none 0 0) := (blk_cell BK294.out 2).trans rfl; have hfz83_0 := blk_frozen BK294.out 0; have hfz83_1 := blk_frozen BK294.out 1; have hfz83_2 := blk_frozen BK294.out 2))
      go_roundg k3
      case measure => have := HK1.out; have := HK2.out; have := HK3.out; omega
      case rel => exact ⟨(wrap64 (x90_3 + 1)), (y296), (.slice Ao82 y296.length co82), (by first | rfl | (simp; done) | (simp [*]; done)), H', ⟨by have := HK1.out; have := HK2.out; have := HK3.out; omega⟩, ⟨by (try simp only [hl6_1]); (try simp only [hl6_2]); (with_reducible repeat (first | apply R_alloc | apply R_drewN | apply R_drew)); exact R_mono (Kd.R_far (p := ⟨gb294, 1, none⟩) (Kd.R_types HO_6.out BK294.out (by decide)) (fun _ hk => hk.2) (.slice Ao82 y296.length co82)) (fun _ hk => trivial)⟩, ⟨by (try simp only [hl6_1]); (try simp only [hl6_2]); (with_reducible repeat (first | apply R_alloc | apply R_drewN | apply R_drew)); exact R_mono (Kd.R_far (p := ⟨gb294, 1, none⟩) (Kd.R_types HO_88.out BK294.out (by decide)) (fun _ hk => hk.2) (.slice Ao82 y296.length co82)) (fun _ hk => trivial)⟩, ⟨by (try simp only [hl6_1]); (try simp only [hl6_2]); (with_reducible repeat (first | apply R_alloc | apply R_drewN | apply R_drew)); exact R_mono (Kd.R_far (p := ⟨gb294, 1, none⟩) (Kd.R_types HO298.out BK294.out (by decide)) (fun _ hk => hk.2) (.slice Ao82 y296.length co82)) (fun _ hk => trivial)⟩, ⟨by (try simp only [hl6_1]); (try simp only [hl6_2]); (with_reducible repeat (first | refine blk_drewN ?_ _ | refine blk_drew ?_ | refine blk_alloc ?_ _)); refine blk_far ?_ NB270_294.out _; (with_reducible repeat (first | refine blk_drewN ?_ _ | refine blk_drew ?_ | refine blk_alloc ?_ _)); exact BK270.out⟩, ⟨by (try simp only [hl6_1]); (try simp only [hl6_2]); (with_reducible repeat (first | refine blk_drewN ?_ _ | refine blk_drew ?_ | refine blk_alloc ?_ _)); refine blk_far ?_ NB271_294.out _; (with_reducible repeat (first | refine blk_drewN ?_ _ | refine blk_drew ?_ | refine blk_alloc ?_ _)); exact BK271.out⟩, ⟨by (try simp only [hl6_1]); (try simp only [hl6_2]); (with_reducible repeat (first | refine blk_drewN ?_ _ | refine blk_drew ?_ | refine blk_alloc ?_ _)); refine blk_put (cs := #[.int .i64 a1, u295001, .slice none 0 0]) ?_ 1 _ rfl; (with_reducible repeat (first | refine blk_drewN ?_ _ | refine blk_drew ?_ | refine blk_alloc ?_ _)); exact BK294.out⟩, ⟨by repeat (first | (with_reducible first | exact HB.out | apply below_alloc | apply pw_below_drewN | apply below_drew1 | refine below_set ?_ GE270.out | refine below_set ?_ GE271.out | refine below_set ?_ GE294.out) | exact HB.out)⟩⟩
    replace c76 := Bool.eq_false_iff.mpr c76
    subst c76
    have H1 : (loops_looker_loop.l2 k3 a1 x6_2 x6_2 (x6_2.length : Int) (wrap64 (x90_3 + 1)) l0_0 l0_1 l0_2 l0_3 a1 x295001_3) = some (r1, r2, r3, r4) := by rw [if_neg (show ¬ (false = true) by decide)] at H; exact H
    clear H
    have H := H1
    clear H1
    have H' := Aside0.mk H
    clear H
    have p295 : 0 ≤ (x90_3 : Int) := of_decide_eq_true (by with_reducible assumption)
    have q295 : x90_3 < (x6_2.length : Int) := of_decide_eq_true (by with_reducible assumption)
    obtain ⟨ad295, e295, hx295_0⟩ := Kd.at_bool (R_reads' HO_88.out).2.2 x90_3 p295 q295
    (try rw [← Nbq75.out] at hx295_0)
    obtain rfl : (⟨go7, 0, none⟩ : Addr) = ad295 := (by injection e295)
    (first | simp only [add_plain] at hx295_0 | simp only [add_at] at hx295_0 | simp only [Addr.add, Nat.zero_add] at hx295_0 | skip)
    replace p295 := eq_true p295
    replace q295 := eq_true q295
    go_wp2
    go_roundg k3
    case measure => have := HK1.out; have := HK2.out; have := HK3.out; omega
    case rel => exact ⟨(wrap64 (x90_3 + 1)), (x295001_3), (u295001), (by first | rfl | (simp; done) | (simp [*]; done)), H', ⟨by have := HK1.out; have := HK2.out; have := HK3.out; omega⟩, ⟨by (try simp only [hl6_1]); (try simp only [hl6_2]); (with_reducible repeat (first | apply R_alloc | apply R_drewN | apply R_drew)); exact HO_6.out⟩, ⟨by (try simp only [hl6_1]); (try simp only [hl6_2]); (with_reducible repeat (first | apply R_alloc | apply R_drewN | apply R_drew)); exact HO_88.out⟩, ⟨by (try simp only [hl6_1]); (try simp only [hl6_2]); (with_reducible repeat (first | apply R_alloc | apply R_drewN | apply R_drew)); exact HO_295001.out⟩, ⟨by (try simp only [hl6_1]); (try simp only [hl6_2]); (with_reducible repeat (first | refine blk_drewN ?_ _ | refine blk_drew ?_ | refine blk_alloc ?_ _)); exact BK270.out⟩, ⟨by (try simp only [hl6_1]); (try simp only [hl6_2]); (with_reducible repeat (first | refine blk_drewN ?_ _ | refine blk_drew ?_ | refine blk_alloc ?_ _)); exact BK271.out⟩, ⟨by (try simp only [hl6_1]); (try simp only [hl6_2]); (with_reducible repeat (first | refine blk_drewN ?_ _ | refine blk_drew ?_ | refine blk_alloc ?_ _)); exact BK294.out⟩, ⟨lu HB.out⟩⟩
  rw [if_neg c72] at H
  have c72b0 : decide (x90_3 < (x6_2.length : Int)) = false := decide_eq_false c72
  (try simp only [hl6_1, hl6_2] at c72b0)
  clear c72
  by_cases c84 : 0 ≤ a1
  rotate_left
  · rw [if_neg c84] at H
    exact absurd H (by simp)
  rw [if_pos c84] at H
  have c84b0 : decide (0 ≤ a1) = true := decide_eq_true c84
  clear c84
  by_cases c85 : a1 < (l0_1.length : Int)
  rotate_left
  · rw [if_neg c85] at H
    exact absurd H (by simp)
  rw [if_pos c85] at H
  have c85b0 : decide (a1 < (l0_1.length : Int)) = true := decide_eq_true c85
  have c85b0l := c85b0
  (try simp only [hl6_1, hl6_2] at c85b0l)
  clear c85
  have H' := Aside0.mk H
  clear H
  have hnb86 := NB270_271.out
  have hnc86 := NB271_270.out
  have hnb87 := NB270_294.out
  have hnc87 := NB294_270.out
  have hcz88_0 : wr.cell? ⟨gb270, 0, none⟩ = some (.slice A0_0 l0_0.length c0_0) := (blk_cell BK270.out 0).trans rfl
  have hcz88_1 : wr.cell? ⟨gb270, 1, none⟩ = some (.slice (some ad276) l0_1.length c0_1) := (blk_cell BK270.out 1).trans rfl
  have hcz88_2 : wr.cell? ⟨gb270, 2, none⟩ = some (.slice A0_2 l0_2.length c0_2) := (blk_cell BK270.out 2).trans rfl
  have hcz88_3 : wr.cell? ⟨gb270, 3, none⟩ = some (.slice A0_3 l0_3.length c0_3) := (blk_cell BK270.out 3).trans rfl
  have hfz88_0 := blk_frozen BK270.out 0
  have hfz88_1 := blk_frozen BK270.out 1
  have hfz88_2 := blk_frozen BK270.out 2
  have hfz88_3 := blk_frozen BK270.out 3
  have p299 : 0 ≤ (a1 : Int) := of_decide_eq_true (by with_reducible assumption)
  have q299 : a1 < (l0_1.length : Int) := of_decide_eq_true (by with_reducible assumption)
  obtain ⟨ad299, A299_0, c299_0, e299, hx299_0, hl299_0, hi299_0⟩ := at_L1 HR0_1.out a1 p299 q299
  obtain rfl : ad276 = ad299 := (by injection e299)
  replace hx299_0 := (HB.out.cell (World.block_lt_of_cell? w _ hx299_0)).trans hx299_0
  have HR299_0 := Aside0.mk hi299_0
  have HC299_0 := Aside0.mk hl299_0
  clear hi299_0 hl299_0
  replace p299 := eq_true p299
  replace q299 := eq_true q299
  go_wp2
  go_loopg [109] k3 (fun kq v109 w' => ∃ (x109_4 : Int) (x295002_4 : List Int) (u295002 : Value), v109 = .int .i64 x109_4 ∧ Aside0 (loops_looker_loop.l3 kq x6_2 (rd_L1 l0_1 a1) ((rd_L1 l0_1 a1).length : Int) x109_4 l0_0 l0_1 l0_2 l0_3 a1 x295001_3 x295002_4 = some (r1, r2, r3, r4)) ∧ Aside0 (kq ≤ k3) ∧ Aside0 (Kd.R Kd.bool 4 w' w.heap.size (fun _ => True) (.slice (some ⟨go7, 0, none⟩) x6_2.length co7) x6_2) ∧ Aside0 (Kd.R (Kd.int .i64) 3 w' w.heap.size (fun k_ => some k_ ≠ (u295002 : Value).ownBlock) u295001 x295001_3) ∧ Aside0 (Kd.R (Kd.int .i64) 3 w' w.heap.size (fun k_ => some k_ ≠ (u295001 : Value).ownBlock) u295002 x295002_4) ∧ Aside0 (w'.heap[gb270]? = some (.cells #[(.slice A0_0 l0_0.length c0_0), (.slice (some ad276) l0_1.length c0_1), (.slice A0_2 l0_2.length c0_2), (.slice A0_3 l0_3.length c0_3)] 67 (0, 0))) ∧ Aside0 (w'.heap[gb271]? = some (.cells #[.int .i64 0, (.slice none 0 0), (.slice none 0 0)] 44 (0, 0))) ∧ Aside0 (w'.heap[gb294]? = some (.cells #[.int .i64 a1, u295001, u295002] 44 (0, 0))) ∧ Aside0 (Below w.heap.size w w'))
  case atStart => exact ⟨(0), (([] : List Int)), (.slice none 0 0), (by first | rfl | (simp; done) | (simp [*]; done)), H', ⟨Nat.le_refl _⟩, ⟨by (try simp only [hl6_1]); (try simp only [hl6_2]); (with_reducible repeat (first | apply R_alloc | apply R_drewN | apply R_drew)); exact HO_6.out⟩, ⟨by (try simp only [hl6_1]); (try simp only [hl6_2]); (with_reducible repeat (first | apply R_alloc | apply R_drewN | apply R_drew)); exact R_mono HO_295001.out (fun _ hk => (by simp [Value.ownBlock]))⟩, ⟨by (try simp only [hl6_1]); (try simp only [hl6_2]); first | exact Kd.R_nil _ _ _ _ _ | exact Kd.N_nil _ _ _ _ _ | exact Kd.V_nil _ _ _ _ _ | exact Kd.Q_nil _ _ _ _ _ | exact Kd.S_nil _ _ _ _ _⟩, ⟨by (try simp only [hl6_1]); (try simp only [hl6_2]); (with_reducible repeat (first | refine blk_drewN ?_ _ | refine blk_drew ?_ | refine blk_alloc ?_ _)); exact BK270.out⟩, ⟨by (try simp only [hl6_1]); (try simp only [hl6_2]); (with_reducible repeat (first | refine blk_drewN ?_ _ | refine blk_drew ?_ | refine blk_alloc ?_ _)); exact BK271.out⟩, ⟨by (try simp only [hl6_1]); (try simp only [hl6_2]); (with_reducible repeat (first | refine blk_drewN ?_ _ | refine blk_drew ?_ | refine blk_alloc ?_ _)); exact BK294.out⟩, ⟨lu HB.out⟩⟩
  clear H'
  try clear c1
  try clear c2
  try clear p2
  try clear q2
  try clear hx2
  try clear c3
  try clear c3b0
  try clear c3b1
  try clear c4
  try clear c4b0
  try clear c4b1
  try clear q4
  try clear c5
  try clear c5b0
  try clear p5
  try clear q5
  try clear hx5
  try clear hf5
  try clear c6
  try clear c6b0
  try clear p6
  try clear q6
  try clear c7
  try clear p7
  try clear q7
  try clear hx7
  try clear hf7
  try clear c8
  try clear c8b0
  try clear c11
  try clear c18
  try clear c18b0
  try clear c19
  try clear c19b0
  try clear c20
  try clear c20b0
  try clear c21
  try clear c21b0
  try clear c22
  try clear c22b0
  try clear c23
  try clear c23b0
  try clear c24
  try clear c24b0
  try clear q25
  try clear c26
  try clear c27
  try clear p27
  try clear q27
  try clear hx27
  try clear c28
  try clear p28
  try clear q28
  try clear hx28
  try clear c29
  try clear p29
  try clear q29
  try clear hx29
  try clear c31
  try clear c33
  try clear c33b0
  try clear c33b1
  try clear c33b2
  try clear c35
  try clear c38
  try clear c38b0
  try clear c38b1
  try clear c40
  try clear c40b0
  try clear c41
  try clear c41b0
  try clear c42
  try clear c42b0
  try clear c42b1
  try clear c43
  try clear c43b0
  try clear c44
  try clear c44b0
  try clear q45
  try clear c46
  try clear q48
  try clear c49
  try clear c49b0
  try clear q50
  try clear c51
  try clear p52
  try clear q52
  try clear hx52
  try clear hf52
  try clear c53
  try clear c53b0
  try clear c54
  try clear q56
  try clear c57
  try clear p64
  try clear q64
  try clear c65
  try clear c69
  try clear c70
  try clear c72
  try clear c72b0
  try clear c73
  try clear c73b0
  try clear c74
  try clear c74b0
  try clear q75
  try clear c76
  try clear c77
  try clear c78
  try clear c79
  try clear c84
  try clear c84b0
  try clear c85
  try clear c85b0
  try clear c86
  try clear c87
  try clear hcz12_0
  try clear hcz12_1
  try clear hcz12_2
  try clear hcz12_3
  try clear hcz17_0
  try clear hcz17_1
  try clear hcz17_2
  try clear hcz17_3
  try clear hcz29_0
  try clear hcz29_1
  try clear hcz29_2
  try clear hcz29_3
  try clear hcz32_0
  try clear hcz32_1
  try clear hcz32_2
  try clear hcz32_3
  try clear hcz36_0
  try clear hcz36_1
  try clear hcz36_2
  try clear hcz58_0
  try clear hcz58_1
  try clear hcz58_2
  try clear hcz58_3
  try clear hcz61_0
  try clear hcz61_1
  try clear hcz61_2
  try clear hcz61_3
  try clear hcz66_0
  try clear hcz66_1
  try clear hcz66_2
  try clear hcz66_3
  try clear hcz71_0
  try clear hcz71_1
  try clear hcz71_2
  try clear hcz80_0
  try clear hcz80_1
  try clear hcz80_2
  try clear hcz83_0
  try clear hcz83_1
  try clear hcz83_2
  try clear hcz88_0
  try clear hcz88_1
  try clear hcz88_2
  try clear hcz88_3
  try clear hfz12_0
  try clear hfz12_1
  try clear hfz12_2
  try clear hfz12_3
  try clear hfz17_0
  try clear hfz17_1
  try clear hfz17_2
  try clear hfz17_3
  try clear hfz29_0
  try clear hfz29_1
  try clear hfz29_2
  try clear hfz29_3
  try clear hfz32_0
  try clear hfz32_1
  try clear hfz32_2
  try clear hfz32_3
  try clear hfz36_0
  try clear hfz36_1
  try clear hfz36_2
  try clear hfz58_0
  try clear hfz58_1
  try clear hfz58_2
  try clear hfz58_3
  try clear hfz61_0
  try clear hfz61_1
  try clear hfz61_2
  try clear hfz61_3
  try clear hfz66_0
  try clear hfz66_1
  try clear hfz66_2
  try clear hfz66_3
  try clear hfz71_0
  try clear hfz71_1
  try clear hfz71_2
  try clear hfz80_0
  try clear hfz80_1
  try clear hfz80_2
  try clear hfz83_0
  try clear hfz83_1
  try clear hfz83_2
  try clear hfz88_0
  try clear hfz88_1
  try clear hfz88_2
  try clear hfz88_3
  try clear hx276_0
  try clear hx277_0
  try clear hx278_0
  try clear hx279_0
  try clear hx283_0
  try clear hx287_0
  try clear hx288_0
  try clear hx290_0
  try clear hx295_0
  try clear hx299_0
  try clear hx52_0
  try clear hx7_0
  try clear p2
  try clear p27
  try clear p276
  try clear p277
  try clear p278
  try clear p279
  try clear p28
  try clear p283
  try clear p287
  try clear p288
  try clear p29
  try clear p290
  try clear p295
  try clear p299
  try clear p5
  try clear p52
  try clear p6
  try clear p64
  try clear p7
  try clear q2
  try clear q25
  try clear q27
  try clear q276
  try clear q277
  try clear q278
  try clear q279
  try clear q28
  try clear q283
  try clear q287
  try clear q288
  try clear q29
  try clear q290
  try clear q295
  try clear q299
  try clear q4
  try clear q45
  try clear q48
  try clear q5
  try clear q50
  try clear q52
  try clear q56
  try clear q6
  try clear q64
  try clear q7
  obtain ⟨x109_4, x295002_4, u295002, rfl, HA, HK4, HO_6, HO_295001, HO_295002, BK270, BK271, BK294, HB⟩ := hrel
  rcases gk with _ | k4
  · exact absurd HA.out (by simp [loops_looker_loop.l3])
  have H := HA.out
  clear HA
  simp only [loops_looker_loop.l3] at H
  by_cases c89 : x109_4 < ((rd_L1 l0_1 a1).length : Int)
  · rw [if_pos c89] at H
    have c89b0 : decide (x109_4 < ((rd_L1 l0_1 a1).length : Int)) = true := decide_eq_true c89
    have c89b0l := c89b0
    (try simp only [hl6_1, hl6_2] at c89b0l)
    clear c89
    by_cases c90 : 0 ≤ x109_4
    rotate_left
    · rw [if_neg c90] at H
      exact absurd H (by simp)
    rw [if_pos c90] at H
    have c90b0 : decide (0 ≤ x109_4) = true := decide_eq_true c90
    clear c90
    by_cases c91 : x109_4 < ((rd_L1 l0_1 a1).length : Int)
    rotate_left
    · rw [if_neg c91] at H
      exact absurd H (by simp)
    rw [if_pos c91] at H
    have c91b0 : decide (x109_4 < ((rd_L1 l0_1 a1).length : Int)) = true := decide_eq_true c91
    have c91b0l := c91b0
    (try simp only [hl6_1, hl6_2] at c91b0l)
    clear c91
    by_cases c92 : 0 ≤ (rd (rd_L1 l0_1 a1) x109_4)
    rotate_left
    · rw [if_neg c92] at H
      exact absurd H (by simp)
    rw [if_pos c92] at H
    have c92b0 : decide (0 ≤ (rd (rd_L1 l0_1 a1) x109_4)) = true := decide_eq_true c92
    clear c92
    by_cases c93 : (rd (rd_L1 l0_1 a1) x109_4) < (x6_2.length : Int)
    rotate_left
    · rw [if_neg c93] at H
      exact absurd H (by simp)
    rw [if_pos c93] at H
    have c93b0 : decide ((rd (rd_L1 l0_1 a1) x109_4) < (x6_2.length : Int)) = true := decide_eq_true c93
    have c93b0l := c93b0
    (try simp only [hl6_1, hl6_2] at c93b0l)
    clear c93
    obtain ⟨bq94, hbq94⟩ : ∃ b_ : Bool, b_ = (rdOf false x6_2 (rd (rd_L1 l0_1 a1) x109_4)) := ⟨_, rfl⟩
    replace H : (if (bq94 = true) then (loops_looker_loop.l3 k4 x6_2 (rd_L1 l0_1 a1) ((rd_L1 l0_1 a1).length : Int) (wrap64 (x109_4 + 1)) l0_0 l0_1 l0_2 l0_3 a1 x295001_3 x295002_4) else (if (rd (rd_L1 l0_1 a1) x109_4) < (l0_3.length : Int) then (if rdOf false l0_3 (rd (rd_L1 l0_1 a1) x109_4) = true then (if x295002_4.length < 17592186044416 then (loops_looker_loop.l3 k4 x6_2 (rd_L1 l0_1 a1) ((rd_L1 l0_1 a1).length : Int) (wrap64 (x109_4 + 1)) l0_0 l0_1 l0_2 l0_3 a1 x295001_3 (x295002_4 ++ [rd (rd_L1 l0_1 a1) x109_4])) else (none)) else (loops_looker_loop.l3 k4 x6_2 (rd_L1 l0_1 a1) ((rd_L1 l0_1 a1).length : Int) (wrap64 (x109_4 + 1)) l0_0 l0_1 l0_2 l0_3 a1 x295001_3 x295002_4)) else (none))) = some (r1, r2, r3, r4) := by rw [← hbq94] at H; exact H
    have Nbq94 := Aside0.mk hbq94
    clear hbq94
    by_cases c95 : (bq94 = true)
    · subst c95
      have H1 : (loops_looker_loop.l3 k4 x6_2 (rd_L1 l0_1 a1) ((rd_L1 l0_1 a1).length : Int) (wrap64 (x109_4 + 1)) l0_0 l0_1 l0_2 l0_3 a1 x295001_3 x295002_4) = some (r1, r2, r3, r4) := by rw [if_pos rfl] at H; exact H
      clear H
      have H := H1
      clear H1
      have H' := Aside0.mk H
      clear H
      have p300 : 0 ≤ (x109_4 : Int) := of_decide_eq_true (by with_reducible assumption)
      have q300 : x109_4 < ((rd_L1 l0_1 a1).length : Int) := of_decide_eq_true (by with_reducible assumption)
      obtain ⟨ad300, e300, hx300_0⟩ := Kd.at_int HR299_0.out x109_4 p300 q300
      cases e300
      replace hx300_0 := (HB.out.cell (World.block_lt_of_cell? w _ hx300_0)).trans hx300_0
      replace p300 := eq_true p300
      replace q300 := eq_true q300
      have p301 : 0 ≤ ((rd (rd_L1 l0_1 a1) x109_4) : Int) := of_decide_eq_true (by with_reducible assumption)
      have q301 : (rd (rd_L1 l0_1 a1) x109_4) < (x6_2.length : Int) := of_decide_eq_true (by with_reducible assumption)
      obtain ⟨ad301, e301, hx301_0⟩ := Kd.at_bool (R_reads' HO_6.out).2.2 (rd (rd_L1 l0_1 a1) x109_4) p301 q301
      (try rw [← Nbq94.out] at hx301_0)
      obtain rfl : (⟨go7, 0, none⟩ : Addr) = ad301 := (by injection e301)
      (first | simp only [add_plain] at hx301_0 | simp only [add_at] at hx301_0 | simp only [Addr.add, Nat.zero_add] at hx301_0 | skip)
      replace p301 := eq_true p301
      replace q301 := eq_true q301
      go_wp2
      go_roundg k4
      case measure => have := HK1.out; have := HK2.out; have := HK3.out; have := HK4.out; omega
      case rel => exact ⟨(wrap64 (x109_4 + 1)), (x295002_4), (u295002), (by first | rfl | (simp; done) | (simp [*]; done)), H', ⟨by have := HK1.out; have := HK2.out; have := HK3.out; have := HK4.out; omega⟩, ⟨by (try simp only [hl6_1]); (try simp only [hl6_2]); (with_reducible repeat (first | apply R_alloc | apply R_drewN | apply R_drew)); exact HO_6.out⟩, ⟨by (try simp only [hl6_1]); (try simp only [hl6_2]); (with_reducible repeat (first | apply R_alloc | apply R_drewN | apply R_drew)); exact HO_295001.out⟩, ⟨by (try simp only [hl6_1]); (try simp only [hl6_2]); (with_reducible repeat (first | apply R_alloc | apply R_drewN | apply R_drew)); exact HO_295002.out⟩, ⟨by (try simp only [hl6_1]); (try simp only [hl6_2]); (with_reducible repeat (first | refine blk_drewN ?_ _ | refine blk_drew ?_ | refine blk_alloc ?_ _)); exact BK270.out⟩, ⟨by (try simp only [hl6_1]); (try simp only [hl6_2]); (with_reducible repeat (first | refine blk_drewN ?_ _ | refine blk_drew ?_ | refine blk_alloc ?_ _)); exact BK271.out⟩, ⟨by (try simp only [hl6_1]); (try simp only [hl6_2]); (with_reducible repeat (first | refine blk_drewN ?_ _ | refine blk_drew ?_ | refine blk_alloc ?_ _)); exact BK294.out⟩, ⟨lu HB.out⟩⟩
    replace c95 := Bool.eq_false_iff.mpr c95
    subst c95
    have H1 : (if (rd (rd_L1 l0_1 a1) x109_4) < (l0_3.length : Int) then (if rdOf false l0_3 (rd (rd_L1 l0_1 a1) x109_4) = true then (if x295002_4.length < 17592186044416 then (loops_looker_loop.l3 k4 x6_2 (rd_L1 l0_1 a1) ((rd_L1 l0_1 a1).length : Int) (wrap64 (x109_4 + 1)) l0_0 l0_1 l0_2 l0_3 a1 x295001_3 (x295002_4 ++ [rd (rd_L1 l0_1 a1) x109_4])) else (none)) else (loops_looker_loop.l3 k4 x6_2 (rd_L1 l0_1 a1) ((rd_L1 l0_1 a1).length : Int) (wrap64 (x109_4 + 1)) l0_0 l0_1 l0_2 l0_3 a1 x295001_3 x295002_4)) else (none)) = some (r1, r2, r3, r4) := by rw [if_neg (show ¬ (false = true) by decide)] at H; exact H
    clear H
    have H := H1
    clear H1
    by_cases c96 : (rd (rd_L1 l0_1 a1) x109_4) < (l0_3.length : Int)
    rotate_left
    · rw [if_neg c96] at H
      exact absurd H (by simp)
    rw [if_pos c96] at H
    have c96b0 : decide ((rd (rd_L1 l0_1 a1) x109_4) < (l0_3.length : Int)) = true := decide_eq_true c96
    have c96b0l := c96b0
    (try simp only [hl6_1, hl6_2] at c96b0l)
    clear c96
    obtain ⟨bq97, hbq97⟩ : ∃ b_ : Bool, b_ = (rdOf false l0_3 (rd (rd_L1 l0_1 a1) x109_4)) := ⟨_, rfl⟩
    replace H : (if bq97 = true then (if x295002_4.length < 17592186044416 then (loops_looker_loop.l3 k4 x6_2 (rd_L1 l0_1 a1) ((rd_L1 l0_1 a1).length : Int) (wrap64 (x109_4 + 1)) l0_0 l0_1 l0_2 l0_3 a1 x295001_3 (x295002_4 ++ [rd (rd_L1 l0_1 a1) x109_4])) else (none)) else (loops_looker_loop.l3 k4 x6_2 (rd_L1 l0_1 a1) ((rd_L1 l0_1 a1).length : Int) (wrap64 (x109_4 + 1)) l0_0 l0_1 l0_2 l0_3 a1 x295001_3 x295002_4)) = some (r1, r2, r3, r4) := by rw [← hbq97] at H; exact H
    have Nbq97 := Aside0.mk hbq97
    clear hbq97
    by_cases c98 : bq97 = true
    · subst c98
      have H1 : (if x295002_4.length < 17592186044416 then (loops_looker_loop.l3 k4 x6_2 (rd_L1 l0_1 a1) ((rd_L1 l0_1 a1).length : Int) (wrap64 (x109_4 + 1)) l0_0 l0_1 l0_2 l0_3 a1 x295001_3 (x295002_4 ++ [rd (rd_L1 l0_1 a1) x109_4])) else (none)) = some (r1, r2, r3, r4) := by rw [if_pos rfl] at H; exact H
      clear H
      have H := H1
      clear H1
      by_cases c99 : x295002_4.length < 17592186044416
      rotate_left
      · rw [if_neg c99] at H
        exact absurd H (by simp)
      rw [if_pos c99] at H
      have LMc99 := Aside0.mk c99
      clear c99
      obtain ⟨y303, hy303⟩ : ∃ y_ : List Int, y_ = (x295002_4 ++ [rd (rd_L1 l0_1 a1) x109_4]) := ⟨_, rfl⟩
      replace H : (loops_looker_loop.l3 k4 x6_2 (rd_L1 l0_1 a1) ((rd_L1 l0_1 a1).length : Int) (wrap64 (x109_4 + 1)) l0_0 l0_1 l0_2 l0_3 a1 x295001_3 y303) = some (r1, r2, r3, r4) := by first | (rw [hy303]; with_reducible exact H) | (have H2_ := (Option.bind_some _ _).symm.trans H; rw [hy303]; with_reducible exact H2_) | exact H
      have Ny303 := Aside0.mk hy303
      clear hy303
      have H' := Aside0.mk H
      clear H
      have p300 : 0 ≤ (x109_4 : Int) := of_decide_eq_true (by with_reducible assumption)
      have q300 : x109_4 < ((rd_L1 l0_1 a1).length : Int) := of_decide_eq_true (by with_reducible assumption)
      obtain ⟨ad300, e300, hx300_0⟩ := Kd.at_int HR299_0.out x109_4 p300 q300
      cases e300
      replace hx300_0 := (HB.out.cell (World.block_lt_of_cell? w _ hx300_0)).trans hx300_0
      replace p300 := eq_true p300
      replace q300 := eq_true q300
      have p301 : 0 ≤ ((rd (rd_L1 l0_1 a1) x109_4) : Int) := of_decide_eq_true (by with_reducible assumption)
      have q301 : (rd (rd_L1 l0_1 a1) x109_4) < (x6_2.length : Int) := of_decide_eq_true (by with_reducible assumption)
      obtain ⟨ad301, e301, hx301_0⟩ := Kd.at_bool (R_reads' HO_6.out).2.2 (rd (rd_L1 l0_1 a1) x109_4) p301 q301
      (try rw [← Nbq94.out] at hx301_0)
      (try rw [← Nbq97.out] at hx301_0)
      obtain rfl : (⟨go7, 0, none⟩ : Addr) = ad301 := (by injection e301)
      (first | simp only [add_plain] at hx301_0 | simp only [add_at] at hx301_0 | simp only [Addr.add, Nat.zero_add] at hx301_0 | skip)
      replace p301 := eq_true p301
      replace q301 := eq_true q301
      have hnb100 := NB270_271.out
      have hnc100 := NB271_270.out
      have hnb101 := NB270_294.out
      have hnc101 := NB294_270.out
      have hcz102_0 : wr.cell? ⟨gb270, 0, none⟩ = some (.slice A0_0 l0_0.length c0_0) := (blk_cell BK270.out 0).trans rfl
      have hcz102_1 : wr.cell? ⟨gb270, 1, none⟩ = some (.slice (some ad276) l0_1.length c0_1) := (blk_cell BK270.out 1).trans rfl
      have hcz102_2 : wr.cell? ⟨gb270, 2, none⟩ = some (.slice A0_2 l0_2.length c0_2) := (blk_cell BK270.out 2).trans rfl
      have hcz102_3 : wr.cell? ⟨gb270, 3, none⟩ = some (.slice A0_3 l0_3.length c0_3) := (blk_cell BK270.out 3).trans rfl
      have hfz102_0 := blk_frozen BK270.out 0
      have hfz102_1 := blk_frozen BK270.out 1
      have hfz102_2 := blk_frozen BK270.out 2
      have hfz102_3 := blk_frozen BK270.out 3
      have p302 : 0 ≤ ((rd (rd_L1 l0_1 a1) x109_4) : Int) := of_decide_eq_true (by with_reducible assumption)
      have q302 : (rd (rd_L1 l0_1 a1) x109_4) < (l0_3.length : Int) := of_decide_eq_true (by with_reducible assumption)
      obtain ⟨ad302, e302, hx302_0⟩ := Kd.at_bool HR0_3.out (rd (rd_L1 l0_1 a1) x109_4) p302 q302
      (try rw [← Nbq94.out] at hx302_0)
      (try rw [← Nbq97.out] at hx302_0)
      cases e302
      replace hx302_0 := (HB.out.cell (World.block_lt_of_cell? w _ hx302_0)).trans hx302_0
      replace p302 := eq_true p302
      replace q302 := eq_true q302
      have hnb103 := NB294_271.out
      have hnc103 := NB271_294.out
      have hcz104_0 : wr.cell? ⟨gb294, 0, none⟩ = some (.int .i64 a1) := (blk_cell BK294.out 0).trans rfl
      have hcz104_1 : wr.cell? ⟨gb294, 1, none⟩ = some (u295001) := (blk_cell BK294.out 1).trans rfl
      have hcz104_2 : wr.cell? ⟨gb294, 2, none⟩ = some (u295002) := (blk_cell BK294.out 2).trans rfl
      have hfz104_0 := blk_frozen BK294.out 0
      have hfz104_1 := blk_frozen BK294.out 1
      have hfz104_2 := blk_frozen BK294.out 2
      go_wp2_with (first | ((with_reducible refine gate_builtin (b := .append) (xs := #[.tmp 126, .tmp 128]) rfl ?_); at_builtin; refine Kd.R_append (Kd.int .i64) (w0 := w) w.heap.size rfl (.tmp 126) (.tmp 128) 22 3 (.int .i64 0) 8 rfl Try.underlying22 info3 rfl (by decide) (by omega) u295002 x295002_4 (rd (rd_L1 l0_1 a1) x109_4) [.int .i64 (rd (rd_L1 l0_1 a1) x109_4)] (fun k_ => some k_ ≠ (u295001 : Value).ownBlock) (fun _ => False) rfl rfl ?aP (fun _ hk => hk.elim) ?aF ?aO ?aB ?aS ?aL ?_; (case aP => exact rfl); (case aB => exact (lu HB.out)); (case aF => exact (fun k_ hk => Kd.fresh' (R_lt (ru HO_295001.out)) k_ hk)); (case aO => exact (ru HO_295002.out)); (case aS => exact (below_size (lu HB.out))); (case aL => have := LMc99.out; omega); intro v304 w105 ho hb hg hat; rw [← Ny303.out] at ho; have n0_ := Aside0.mk (Kd.R_over' (ru HO_6.out) (Kd.R_typed (ru HO_295002.out)) (by decide) hg); have n1_ := Aside0.mk (Kd.R_after (ok := (fun _ => True)) (ru (R_mono HO_295001.out (fun _ hk => ⟨trivial, hk⟩))) hg hat); have n2_ := Aside0.mk (blk_grown (bu BK270.out) hg (Kd.R_ne HO_295002.out BK270.out (by decide))); have n3_ := Aside0.mk (blk_grown (bu BK271.out) hg (Kd.R_ne HO_295002.out BK271.out (by decide))); have n4_ := Aside0.mk (blk_grown (bu BK294.out) hg (Kd.R_ne HO_295002.out BK294.out (by decide))); have n5_ := Aside0.mk (hb); have n6_ := Aside0.mk (ho); clear HO_6; clear HO_295001; clear BK270; clear BK271; clear BK294; clear HB; clear HO_295002; have HO_6 := n0_; have HO_295001 := n1_; have BK270 := n2_; have BK271 := n3_; have BK294 := n4_; have HB := n5_; have HO305 := n6_; clear n0_ n1_ n2_ n3_ n4_ n5_ n6_; clear ho hb hg hat; obtain ⟨Ao106, co106, eo106⟩ := Kd.R_slice HO305.out; subst eo106; have hcz107_0 : w105.cell? ⟨gb294, 0, none⟩ = some (.int .i64 a1) := (blk_cell BK294.out 0).trans rfl; have hcz107_1 : w105.cell? ⟨gb294, 1, none⟩ = some (u295001) := (blk_cell BK294.out 1).trans rfl; have hcz107_2 : w105.cell? ⟨gb294, 2, none⟩ = some (u295002) := (blk_cell BK294.out 2).trans rfl; have hfz107_0 := blk_frozen BK294.out 0; have hfz107_1 := blk_frozen BK294.out 1; have hfz107_2 := blk_frozen BK294.out 2))
      go_roundg k4
      case measure => have := HK1.out; have := HK2.out; have := HK3.out; have := HK4.out; omega
      case rel => exact ⟨(wrap64 (x109_4 + 1)), (y303), (.slice Ao106 y303.length co106), (by first | rfl | (simp; done) | (simp [*]; done)), H', ⟨by have := HK1.out; have := HK2.out; have := HK3.out; have := HK4.out; omega⟩, ⟨by (try simp only [hl6_1]); (try simp only [hl6_2]); (with_reducible repeat (first | apply R_alloc | apply R_drewN | apply R_drew)); exact R_mono (Kd.R_far (p := ⟨gb294, 2, none⟩) (Kd.R_types HO_6.out BK294.out (by decide)) (fun _ hk => hk.2) (.slice Ao106 y303.length co106)) (fun _ hk => trivial)⟩, ⟨by (try simp only [hl6_1]); (try simp only [hl6_2]); (with_reducible repeat (first | apply R_alloc | apply R_drewN | apply R_drew)); exact R_mono (Kd.R_far (p := ⟨gb294, 2, none⟩) (Kd.R_types HO_295001.out BK294.out (by decide)) (fun _ hk => hk.2) (.slice Ao106 y303.length co106)) (fun _ hk => hk.1.2)⟩, ⟨by (try simp only [hl6_1]); (try simp only [hl6_2]); (with_reducible repeat (first | apply R_alloc | apply R_drewN | apply R_drew)); exact R_mono (Kd.R_far (p := ⟨gb294, 2, none⟩) (Kd.R_types HO305.out BK294.out (by decide)) (fun _ hk => hk.2) (.slice Ao106 y303.length co106)) (fun _ hk => hk.1)⟩, ⟨by (try simp only [hl6_1]); (try simp only [hl6_2]); (with_reducible repeat (first | refine blk_drewN ?_ _ | refine blk_drew ?_ | refine blk_alloc ?_ _)); refine blk_far ?_ NB270_294.out _; (with_reducible repeat (first | refine blk_drewN ?_ _ | refine blk_drew ?_ | refine blk_alloc ?_ _)); exact BK270.out⟩, ⟨by (try simp only [hl6_1]); (try simp only [hl6_2]); (with_reducible repeat (first | refine blk_drewN ?_ _ | refine blk_drew ?_ | refine blk_alloc ?_ _)); refine blk_far ?_ NB271_294.out _; (with_reducible repeat (first | refine blk_drewN ?_ _ | refine blk_drew ?_ | refine blk_alloc ?_ _)); exact BK271.out⟩, ⟨by (try simp only [hl6_1]); (try simp only [hl6_2]); (with_reducible repeat (first | refine blk_drewN ?_ _ | refine blk_drew ?_ | refine blk_alloc ?_ _)); refine blk_put (cs := #[.int .i64 a1, u295001, u295002]) ?_ 2 _ rfl; (with_reducible repeat (first | refine blk_drewN ?_ _ | refine blk_drew ?_ | refine blk_alloc ?_ _)); exact BK294.out⟩, ⟨by repeat (first | (with_reducible first | exact HB.out | apply below_alloc | apply pw_below_drewN | apply below_drew1 | refine below_set ?_ GE270.out | refine below_set ?_ GE271.out | refine below_set ?_ GE294.out) | exact HB.out)⟩⟩
    replace c98 := Bool.eq_false_iff.mpr c98
    subst c98
    have H1 : (loops_looker_loop.l3 k4 x6_2 (rd_L1 l0_1 a1) ((rd_L1 l0_1 a1).length : Int) (wrap64 (x109_4 + 1)) l0_0 l0_1 l0_2 l0_3 a1 x295001_3 x295002_4) = some (r1, r2, r3, r4) := by rw [if_neg (show ¬ (false = true) by decide)] at H; exact H
    clear H
    have H := H1
    clear H1
    have H' := Aside0.mk H
    clear H
    have p300 : 0 ≤ (x109_4 : Int) := of_decide_eq_true (by with_reducible assumption)
    have q300 : x109_4 < ((rd_L1 l0_1 a1).length : Int) := of_decide_eq_true (by with_reducible assumption)
    obtain ⟨ad300, e300, hx300_0⟩ := Kd.at_int HR299_0.out x109_4 p300 q300
    cases e300
    replace hx300_0 := (HB.out.cell (World.block_lt_of_cell? w _ hx300_0)).trans hx300_0
    replace p300 := eq_true p300
    replace q300 := eq_true q300
    have p301 : 0 ≤ ((rd (rd_L1 l0_1 a1) x109_4) : Int) := of_decide_eq_true (by with_reducible assumption)
    have q301 : (rd (rd_L1 l0_1 a1) x109_4) < (x6_2.length : Int) := of_decide_eq_true (by with_reducible assumption)
    obtain ⟨ad301, e301, hx301_0⟩ := Kd.at_bool (R_reads' HO_6.out).2.2 (rd (rd_L1 l0_1 a1) x109_4) p301 q301
    (try rw [← Nbq94.out] at hx301_0)
    (try rw [← Nbq97.out] at hx301_0)
    obtain rfl : (⟨go7, 0, none⟩ : Addr) = ad301 := (by injection e301)
    (first | simp only [add_plain] at hx301_0 | simp only [add_at] at hx301_0 | simp only [Addr.add, Nat.zero_add] at hx301_0 | skip)
    replace p301 := eq_true p301
    replace q301 := eq_true q301
    have hnb108 := NB270_271.out
    have hnc108 := NB271_270.out
    have hnb109 := NB270_294.out
    have hnc109 := NB294_270.out
    have hcz110_0 : wr.cell? ⟨gb270, 0, none⟩ = some (.slice A0_0 l0_0.length c0_0) := (blk_cell BK270.out 0).trans rfl
    have hcz110_1 : wr.cell? ⟨gb270, 1, none⟩ = some (.slice (some ad276) l0_1.length c0_1) := (blk_cell BK270.out 1).trans rfl
    have hcz110_2 : wr.cell? ⟨gb270, 2, none⟩ = some (.slice A0_2 l0_2.length c0_2) := (blk_cell BK270.out 2).trans rfl
    have hcz110_3 : wr.cell? ⟨gb270, 3, none⟩ = some (.slice A0_3 l0_3.length c0_3) := (blk_cell BK270.out 3).trans rfl
    have hfz110_0 := blk_frozen BK270.out 0
    have hfz110_1 := blk_frozen BK270.out 1
    have hfz110_2 := blk_frozen BK270.out 2
    have hfz110_3 := blk_frozen BK270.out 3
    have p302 : 0 ≤ ((rd (rd_L1 l0_1 a1) x109_4) : Int) := of_decide_eq_true (by with_reducible assumption)
    have q302 : (rd (rd_L1 l0_1 a1) x109_4) < (l0_3.length : Int) := of_decide_eq_true (by with_reducible assumption)
    obtain ⟨ad302, e302, hx302_0⟩ := Kd.at_bool HR0_3.out (rd (rd_L1 l0_1 a1) x109_4) p302 q302
    (try rw [← Nbq94.out] at hx302_0)
    (try rw [← Nbq97.out] at hx302_0)
    cases e302
    replace hx302_0 := (HB.out.cell (World.block_lt_of_cell? w _ hx302_0)).trans hx302_0
    replace p302 := eq_true p302
    replace q302 := eq_true q302
    go_wp2
    go_roundg k4
    case measure => have := HK1.out; have := HK2.out; have := HK3.out; have := HK4.out; omega
    case rel => exact ⟨(wrap64 (x109_4 + 1)), (x295002_4), (u295002), (by first | rfl | (simp; done) | (simp [*]; done)), H', ⟨by have := HK1.out; have := HK2.out; have := HK3.out; have := HK4.out; omega⟩, ⟨by (try simp only [hl6_1]); (try simp only [hl6_2]); (with_reducible repeat (first | apply R_alloc | apply R_drewN | apply R_drew)); exact HO_6.out⟩, ⟨by (try simp only [hl6_1]); (try simp only [hl6_2]); (with_reducible repeat (first | apply R_alloc | apply R_drewN | apply R_drew)); exact HO_295001.out⟩, ⟨by (try simp only [hl6_1]); (try simp only [hl6_2]); (with_reducible repeat (first | apply R_alloc | apply R_drewN | apply R_drew)); exact HO_295002.out⟩, ⟨by (try simp only [hl6_1]); (try simp only [hl6_2]); (with_reducible repeat (first | refine blk_drewN ?_ _ | refine blk_drew ?_ | refine blk_alloc ?_ _)); exact BK270.out⟩, ⟨by (try simp only [hl6_1]); (try simp only [hl6_2]); (with_reducible repeat (first | refine blk_drewN ?_ _ | refine blk_drew ?_ | refine blk_alloc ?_ _)); exact BK271.out⟩, ⟨by (try simp only [hl6_1]); (try simp only [hl6_2]); (with_reducible repeat (first | refine blk_drewN ?_ _ | refine blk_drew ?_ | refine blk_alloc ?_ _)); exact BK294.out⟩, ⟨lu HB.out⟩⟩
  rw [if_neg c89] at H
  have c89b0 : decide (x109_4 < ((rd_L1 l0_1 a1).length : Int)) = false := decide_eq_false c89
  (try simp only [hl6_1, hl6_2] at c89b0)
  clear c89
  simp only [Option.some.injEq, Prod.mk.injEq] at H
  obtain ⟨rfl, rfl, rfl, rfl⟩ := H
  have hnb111 := NB294_270.out
  have hnc111 := NB270_294.out
  have hnb112 := NB294_271.out
  have hnc112 := NB271_294.out
  have hcz113_0 : wr.cell? ⟨gb294, 0, none⟩ = some (.int .i64 a1) := (blk_cell BK294.out 0).trans rfl
  have hcz113_1 : wr.cell? ⟨gb294, 1, none⟩ = some (u295001) := (blk_cell BK294.out 1).trans rfl
  have hcz113_2 : wr.cell? ⟨gb294, 2, none⟩ = some (u295002) := (blk_cell BK294.out 2).trans rfl
  have hfz113_0 := blk_frozen BK294.out 0
  have hfz113_1 := blk_frozen BK294.out 1
  have hfz113_2 := blk_frozen BK294.out 2
  have hnb114 := NB271_270.out
  have hnc114 := NB270_271.out
  have hcz115_0 : wr.cell? ⟨gb271, 0, none⟩ = some (.int .i64 0) := (blk_cell BK271.out 0).trans rfl
  have hcz115_1 : wr.cell? ⟨gb271, 1, none⟩ = some (.slice none 0 0) := (blk_cell BK271.out 1).trans rfl
  have hcz115_2 : wr.cell? ⟨gb271, 2, none⟩ = some (.slice none 0 0) := (blk_cell BK271.out 2).trans rfl
  have hfz115_0 := blk_frozen BK271.out 0
  have hfz115_1 := blk_frozen BK271.out 1
  have hfz115_2 := blk_frozen BK271.out 2
  obtain ⟨Ao116, co116, eo116⟩ := Kd.R_slice HO_295001.out
  subst eo116
  obtain ⟨Ao117, co117, eo117⟩ := Kd.R_slice HO_295002.out
  subst eo117
  go_wp2
  refine bodyPost_ret (results_ct rfl _ _ gb271 44 #[.int .i64 a1, .slice Ao116 x295001_3.length co116, .slice Ao117 x295002_4.length co117] (0, 0) _ rfl (blk_put (cs := #[.int .i64 a1, .slice Ao116 x295001_3.length co116, .slice none 0 0]) (blk_put (cs := #[.int .i64 a1, .slice none 0 0, .slice none 0 0]) (blk_put (cs := #[.int .i64 0, .slice none 0 0, .slice none 0 0]) (bu BK271.out) 0 _ rfl) 1 _ rfl) 2 _ rfl) Try.underlying44 rfl (by kernel_rfl)) rfl ?_
  exact ⟨_, _, by first | rfl | (simp [errW_none, errW_some] <;> rfl) | (simp [*, errW_none, errW_some] <;> rfl), ru (R_mono (Kd.R_far (p := ⟨gb271, 2, none⟩) (Kd.R_far (p := ⟨gb271, 1, none⟩) (Kd.R_far (p := ⟨gb271, 0, none⟩) (Kd.R_types HO_295001.out BK271.out (by decide)) (fun _ hk => hk.2) (.int .i64 a1)) (fun _ hk => hk.2) (.slice Ao116 x295001_3.length co116)) (fun _ hk => hk.2) (.slice Ao117 x295002_4.length co117)) (fun _ hk => hk.1)), ru (R_mono (Kd.R_far (p := ⟨gb271, 2, none⟩) (Kd.R_far (p := ⟨gb271, 1, none⟩) (Kd.R_far (p := ⟨gb271, 0, none⟩) (Kd.R_types HO_295002.out BK271.out (by decide)) (fun _ hk => hk.2) (.int .i64 a1)) (fun _ hk => hk.2) (.slice Ao116 x295001_3.length co116)) (fun _ hk => hk.2) (.slice Ao117 x295002_4.length co117)) (fun _ hk => hk.1)), by repeat (first | (with_reducible first | exact HB.out | apply below_alloc | apply pw_below_drewN | apply below_drew1 | refine below_set ?_ GE270.out | refine below_set ?_ GE271.out | refine below_set ?_ GE294.out) | exact HB.out)⟩
end Go.Proofs.Ytpionncanaamgaa.PLoopsStays
