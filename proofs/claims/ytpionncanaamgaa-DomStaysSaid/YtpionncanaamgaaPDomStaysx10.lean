-- Laid by a program of this session (wip/pp/patch.py over the kit's print).
import Derived.Test.YtpionncanaamgaaPDomStaysx0
import Derived.Test.YtpionncanaamgaaShort
namespace Go.Proofs.Ytpionncanaamgaa.PDomStays
open Go.Proofs.Ytpionncanaamgaa.Short Go.RowKit Go.Proofs.YtpionncanaamgaaW.PrintWords Go.Proofs.YtpionncanaamgaaW.PrintLast Go.Proofs.YtpionncanaamgaaW.PrintMore Go.Proofs.YtpionncanaamgaaW.PrintWords.Kd
attribute [local go_sem] max2_int min2_int max_two min_two max_three min_three max_four min_four   -- for this text's walks alone
set_option linter.unusedVariables false
set_option linter.unusedSimpArgs false

/-! ### fettleref02_CopyFunc: function 23 -/
mutual
def fettleref02_CopyFunc.l0 : Nat → Int → Int → Int → List Int → List (S52) → Int → Int → List Int → List (S52) → Option (Int × Int × List Int × (List (S52)))
  | 0, _, _, _, _, _, _, _, _, _ => none
  | k + 1, x4, x306000, x306001, x306002, x306003, x314000, x314001, x314002, x314003 => if x4 < (x306003.length : Int) then (if 0 ≤ x4 then ((some (([] : List Int) : List Int)).bind fun y316 => (if y316.length + ((rd_T52 x306003 x4).f2.f2).length < 17592186044416 then (fettleref02_CopyFunc.l1 k x4 0 x306000 x306001 x306002 x306003 x314000 x314001 x314002 x314003 ((rd_T52 x306003 x4).f0) ((rd_T52 x306003 x4).f1) ((rd_T52 x306003 x4).f2.f0) ((rd_T52 x306003 x4).f2.f1) ((rd_T52 x306003 x4).f2.f2) ([] : List (S62)) ((rd_T52 x306003 x4).f2.f0) ((rd_T52 x306003 x4).f2.f1) (y316 ++ ((rd_T52 x306003 x4).f2.f2))) else (none))) else (none)) else (some (x314000, x314001, x314002, x314003))
def fettleref02_CopyFunc.l1 : Nat → Int → Int → Int → Int → List Int → List (S52) → Int → Int → List Int → List (S52) → List (S62) → List (S64) → Int → Int → List Int → List (S62) → Int → Int → List Int → Option (Int × Int × List Int × (List (S52)))
  | 0, _, _, _, _, _, _, _, _, _, _, _, _, _, _, _, _, _, _, _ => none
  | k + 1, x4, x7, x306000, x306001, x306002, x306003, x314000, x314001, x314002, x314003, x316000, x316001, x316002, x316003, x316004, x323000, x323002, x323003, x323004 => if x7 < (x316000.length : Int) then (if 0 ≤ x7 then ((some (([] : List Int) : List Int)).bind fun y324 => (if y324.length + ((rd_T62 x316000 x7).f1).length < 17592186044416 then (if x323000.length < 4398046511104 then (fettleref02_CopyFunc.l1 k x4 (wrap64 (x7 + 1)) x306000 x306001 x306002 x306003 x314000 x314001 x314002 x314003 x316000 x316001 x316002 x316003 x316004 (x323000 ++ [(⟨(rd_T62 x316000 x7).f0, (y324 ++ ((rd_T62 x316000 x7).f1))⟩ : S62)]) x323002 x323003 x323004) else (none)) else (none))) else (none)) else (fettleref02_CopyFunc.l2 k x4 0 x306000 x306001 x306002 x306003 x314000 x314001 x314002 x314003 x316000 x316001 x316002 x316003 x316004 x323000 ([] : List (S64)) x323002 x323003 x323004)
def fettleref02_CopyFunc.l2 : Nat → Int → Int → Int → Int → List Int → List (S52) → Int → Int → List Int → List (S52) → List (S62) → List (S64) → Int → Int → List Int → List (S62) → List (S64) → Int → Int → List Int → Option (Int × Int × List Int × (List (S52)))
  | 0, _, _, _, _, _, _, _, _, _, _, _, _, _, _, _, _, _, _, _, _ => none
  | k + 1, x4, x8, x306000, x306001, x306002, x306003, x314000, x314001, x314002, x314003, x316000, x316001, x316002, x316003, x316004, x323000, x323001, x323002, x323003, x323004 => if x8 < (x316001.length : Int) then (if 0 ≤ x8 then ((some (([] : List Int) : List Int)).bind fun y336 => (if y336.length + ((rd_T64 x316001 x8).f2).length < 17592186044416 then (if x323001.length < 2513169434916 then (fettleref02_CopyFunc.l2 k x4 (wrap64 (x8 + 1)) x306000 x306001 x306002 x306003 x314000 x314001 x314002 x314003 x316000 x316001 x316002 x316003 x316004 x323000 (x323001 ++ [(⟨(rd_T64 x316001 x8).f0, (rd_T64 x316001 x8).f1, (y336 ++ ((rd_T64 x316001 x8).f2)), (rd_T64 x316001 x8).f3, (rd_T64 x316001 x8).f4⟩ : S64)]) x323002 x323003 x323004) else (none)) else (none))) else (none)) else (if x314003.length < 1599289640401 then (fettleref02_CopyFunc.l0 k (wrap64 (x4 + 1)) x306000 x306001 x306002 x306003 x314000 x314001 x314002 (x314003 ++ [(⟨x323000, x323001, (⟨x323002, x323003, x323004⟩ : S47)⟩ : S52)])) else (none))
end
def fettleref02_CopyFunc.f (k : Nat) (a0_0 : Int) (a0_1 : Int) (l0_2 : List Int) (l0_3 : List (S52)) : Option (Int × Int × List Int × (List (S52))) := (some (([] : List Int) : List Int)).bind fun y307 => (if y307.length + l0_2.length < 17592186044416 then (fettleref02_CopyFunc.l0 k 0 a0_0 a0_1 l0_2 l0_3 a0_0 a0_1 (y307 ++ l0_2) ([] : List (S52))) else (none))
theorem fettleref02_CopyFunc.mono_l : ∀ k, (∀ y0 y1 y2 y3 y4 y5 y6 y7 y8, LeO (fettleref02_CopyFunc.l0 k y0 y1 y2 y3 y4 y5 y6 y7 y8) (fettleref02_CopyFunc.l0 (k + 1) y0 y1 y2 y3 y4 y5 y6 y7 y8)) ∧ (∀ y0 y1 y2 y3 y4 y5 y6 y7 y8 y9 y10 y11 y12 y13 y14 y15 y16 y17 y18, LeO (fettleref02_CopyFunc.l1 k y0 y1 y2 y3 y4 y5 y6 y7 y8 y9 y10 y11 y12 y13 y14 y15 y16 y17 y18) (fettleref02_CopyFunc.l1 (k + 1) y0 y1 y2 y3 y4 y5 y6 y7 y8 y9 y10 y11 y12 y13 y14 y15 y16 y17 y18)) ∧ (∀ y0 y1 y2 y3 y4 y5 y6 y7 y8 y9 y10 y11 y12 y13 y14 y15 y16 y17 y18 y19, LeO (fettleref02_CopyFunc.l2 k y0 y1 y2 y3 y4 y5 y6 y7 y8 y9 y10 y11 y12 y13 y14 y15 y16 y17 y18 y19) (fettleref02_CopyFunc.l2 (k + 1) y0 y1 y2 y3 y4 y5 y6 y7 y8 y9 y10 y11 y12 y13 y14 y15 y16 y17 y18 y19))
  | 0 => ⟨fun _ _ _ _ _ _ _ _ _ r h => by simp [fettleref02_CopyFunc.l0] at h, fun _ _ _ _ _ _ _ _ _ _ _ _ _ _ _ _ _ _ _ r h => by simp [fettleref02_CopyFunc.l1] at h, fun _ _ _ _ _ _ _ _ _ _ _ _ _ _ _ _ _ _ _ _ r h => by simp [fettleref02_CopyFunc.l2] at h⟩
  | k + 1 => by
    obtain ⟨ih0, ih1, ih2⟩ := fettleref02_CopyFunc.mono_l k
    refine ⟨?_, ?_, ?_⟩
    · intro y0 y1 y2 y3 y4 y5 y6 y7 y8
      unfold fettleref02_CopyFunc.l0
      repeat' first
      | (with_reducible exact ih0 _ _ _ _ _ _ _ _ _)
      | (with_reducible exact ih1 _ _ _ _ _ _ _ _ _ _ _ _ _ _ _ _ _ _ _)
      | (with_reducible exact ih2 _ _ _ _ _ _ _ _ _ _ _ _ _ _ _ _ _ _ _ _)
      | (with_reducible exact LeO.refl _)
      | (with_reducible exact LeO.none _)
      | (with_reducible refine LeO.ite ?_ ?_)
      | (with_reducible refine LeO.bind ?_ (fun _ => ?_))
      | exact ih0 _ _ _ _ _ _ _ _ _
      | exact ih1 _ _ _ _ _ _ _ _ _ _ _ _ _ _ _ _ _ _ _
      | exact ih2 _ _ _ _ _ _ _ _ _ _ _ _ _ _ _ _ _ _ _ _
      | exact LeO.none _
      | refine LeO.ite ?_ ?_
      | refine LeO.bind ?_ (fun _ => ?_)
    · intro y0 y1 y2 y3 y4 y5 y6 y7 y8 y9 y10 y11 y12 y13 y14 y15 y16 y17 y18
      unfold fettleref02_CopyFunc.l1
      repeat' first
      | (with_reducible exact ih0 _ _ _ _ _ _ _ _ _)
      | (with_reducible exact ih1 _ _ _ _ _ _ _ _ _ _ _ _ _ _ _ _ _ _ _)
      | (with_reducible exact ih2 _ _ _ _ _ _ _ _ _ _ _ _ _ _ _ _ _ _ _ _)
      | (with_reducible exact LeO.refl _)
      | (with_reducible exact LeO.none _)
      | (with_reducible refine LeO.ite ?_ ?_)
      | (with_reducible refine LeO.bind ?_ (fun _ => ?_))
      | exact ih0 _ _ _ _ _ _ _ _ _
      | exact ih1 _ _ _ _ _ _ _ _ _ _ _ _ _ _ _ _ _ _ _
      | exact ih2 _ _ _ _ _ _ _ _ _ _ _ _ _ _ _ _ _ _ _ _
      | exact LeO.none _
      | refine LeO.ite ?_ ?_
      | refine LeO.bind ?_ (fun _ => ?_)
    · intro y0 y1 y2 y3 y4 y5 y6 y7 y8 y9 y10 y11 y12 y13 y14 y15 y16 y17 y18 y19
      unfold fettleref02_CopyFunc.l2
      repeat' first
      | (with_reducible exact ih0 _ _ _ _ _ _ _ _ _)
      | (with_reducible exact ih1 _ _ _ _ _ _ _ _ _ _ _ _ _ _ _ _ _ _ _)
      | (with_reducible exact ih2 _ _ _ _ _ _ _ _ _ _ _ _ _ _ _ _ _ _ _ _)
      | (with_reducible exact LeO.refl _)
      | (with_reducible exact LeO.none _)
      | (with_reducible refine LeO.ite ?_ ?_)
      | (with_reducible refine LeO.bind ?_ (fun _ => ?_))
      | exact ih0 _ _ _ _ _ _ _ _ _
      | exact ih1 _ _ _ _ _ _ _ _ _ _ _ _ _ _ _ _ _ _ _
      | exact ih2 _ _ _ _ _ _ _ _ _ _ _ _ _ _ _ _ _ _ _ _
      | exact LeO.none _
      | refine LeO.ite ?_ ?_
      | refine LeO.bind ?_ (fun _ => ?_)
theorem fettleref02_CopyFunc.mono : ∀ a0 a1 a2 a3 k, LeO (fettleref02_CopyFunc.f k a0 a1 a2 a3) (fettleref02_CopyFunc.f (k + 1) a0 a1 a2 a3) := by
  intro a0 a1 a2 a3 k
  obtain ⟨ih0, ih1, ih2⟩ := fettleref02_CopyFunc.mono_l k
  unfold fettleref02_CopyFunc.f
  repeat' first
      | (with_reducible exact ih0 _ _ _ _ _ _ _ _ _)
      | (with_reducible exact ih1 _ _ _ _ _ _ _ _ _ _ _ _ _ _ _ _ _ _ _)
      | (with_reducible exact ih2 _ _ _ _ _ _ _ _ _ _ _ _ _ _ _ _ _ _ _ _)
      | (with_reducible exact LeO.refl _)
      | (with_reducible exact LeO.none _)
      | (with_reducible refine LeO.ite ?_ ?_)
      | (with_reducible refine LeO.bind ?_ (fun _ => ?_))
      | exact ih0 _ _ _ _ _ _ _ _ _
      | exact ih1 _ _ _ _ _ _ _ _ _ _ _ _ _ _ _ _ _ _ _
      | exact ih2 _ _ _ _ _ _ _ _ _ _ _ _ _ _ _ _ _ _ _ _
      | exact LeO.none _
      | refine LeO.ite ?_ ?_
      | refine LeO.bind ?_ (fun _ => ?_)
def fettleref02_CopyFunc.T1 : Bool × List (List Nat × List Nat) := (true, [([], []), ([0], [0]), ([], []), ([2], [2]), ([], []), ([], []), ([5], [5]), ([4, 6], [4, 6]), ([1, 3, 7], [1, 3, 7]), ([], []), ([9, 8, 7, 0, 1, 2, 3, 4, 5, 6, 7, 8, 9], [8, 9])])
def fettleref02_CopyFunc.B1 : List Nat := [0, 1, 0, 4, 0, 0, 32, 112, 255, 0, 1023]
theorem fettleref02_CopyFunc.tab1 : rtab .any (opsOf Try.f23 1) = fettleref02_CopyFunc.T1 := by kernel_rfl
theorem fettleref02_CopyFunc.bits1 : waitsOk fettleref02_CopyFunc.T1.2 fettleref02_CopyFunc.B1 = true := by kernel_rfl
def fettleref02_CopyFunc.T6 : Bool × List (List Nat × List Nat) := (true, [([], []), ([0], [0]), ([1], [1]), ([], []), ([3], [3]), ([4], [4]), ([], []), ([], []), ([7], [7]), ([8], [8]), ([6, 9], [6, 9]), ([2, 5, 10], [2, 5, 10]), ([11], [11]), ([], []), ([13, 12, 10, 0, 1, 2, 3, 4, 5, 6, 7, 8, 9, 10, 11, 12, 13], [12, 13])])
def fettleref02_CopyFunc.B6 : List Nat := [0, 1, 3, 0, 8, 24, 0, 0, 128, 384, 960, 2047, 4095, 0, 16383]
theorem fettleref02_CopyFunc.tab6 : rtab .any (opsOf Try.f23 6) = fettleref02_CopyFunc.T6 := by kernel_rfl
theorem fettleref02_CopyFunc.bits6 : waitsOk fettleref02_CopyFunc.T6.2 fettleref02_CopyFunc.B6 = true := by kernel_rfl
def fettleref02_CopyFunc.T10 : Bool × List (List Nat × List Nat) := (true, [([], []), ([0], [0]), ([], []), ([2], [2]), ([], []), ([3, 4], [3, 4]), ([5], [5]), ([6], [6]), ([], []), ([], []), ([9], [9]), ([], []), ([10, 11], [10, 11]), ([12], [12]), ([13], [13]), ([8, 14], [8, 14]), ([7, 15], [7, 15]), ([16], [16]), ([1, 17, 15], [1, 17]), ([0, 1, 2, 3, 4, 5, 6, 7, 8, 9, 10, 11, 12, 13, 14, 15, 16, 17, 18], []), ([19, 18, 18, 0, 1, 2, 3, 4, 5, 6, 7, 8, 9, 10, 11, 12, 13, 14, 15, 16, 17, 18], [18, 19])])
def fettleref02_CopyFunc.B10 : List Nat := [0, 1, 0, 4, 0, 28, 60, 124, 0, 0, 512, 0, 3584, 7680, 15872, 32512, 65532, 131068, 262143, 524287, 1048575]
theorem fettleref02_CopyFunc.tab10 : rtab .any (opsOf Try.f23 10) = fettleref02_CopyFunc.T10 := by kernel_rfl
theorem fettleref02_CopyFunc.bits10 : waitsOk fettleref02_CopyFunc.T10.2 fettleref02_CopyFunc.B10 = true := by kernel_rfl
set_option maxHeartbeats 8000000 in
set_option maxRecDepth 100000 in
theorem fettleref02_CopyFunc.calls (k : Nat) (a0_0 : Int) (a0_1 : Int) (A0_2 : Option Addr) (c0_2 : Nat) (l0_2 : List Int) (A0_3 : Option Addr) (c0_3 : Nat) (l0_3 : List (S52)) (r1 : Int) (r2 : Int) (r3 : List Int) (r4 : List (S52)) (w : World) (hr0_2 : Kd.C (Kd.int .i64) w A0_2 l0_2.length l0_2) (hc0_2 : l0_2.length ≤ c0_2) (hr0_3 : Kd.C k52 w A0_3 l0_3.length l0_3) (hc0_3 : l0_3.length ≤ c0_3) (h : fettleref02_CopyFunc.f k a0_0 a0_1 l0_2 l0_3 = some (r1, r2, r3, r4)) :
    Calls Try.prog 23 #[.agg #[.int .i64 a0_0, .int .i64 a0_1, .slice A0_2 l0_2.length c0_2, .slice A0_3 l0_3.length c0_3]] w fun e w' => ∃ v2_ v3_ : Value, e = .returned (.agg #[.int .i64 r1, .int .i64 r2, v2_, v3_]) ∧ Kd.R (Kd.int .i64) 3 w' w.heap.size (fun _ => True) v2_ r3 ∧ Kd.R k52 52 w' w.heap.size (fun k_ => some k_ ≠ (v2_ : Value).ownBlock) v3_ r4 ∧ Below w.heap.size w w' := by
  have hu25 := Try.underlying25
  have hu52 := Try.underlying52
  have hu47 := Try.underlying47
  have hu62 := Try.underlying62
  have hu64 := Try.underlying64
  have HR0_2 := Aside0.mk hr0_2
  have HC0_2 := Aside0.mk hc0_2
  clear hr0_2 hc0_2
  have HR0_3 := Aside0.mk hr0_3
  have HC0_3 := Aside0.mk hc0_3
  clear hr0_3 hc0_3
  have HB := Aside0.mk (Below.refl w.heap.size w)
  have H : ((some (([] : List Int) : List Int)).bind fun y307 => (if y307.length + l0_2.length < 17592186044416 then (fettleref02_CopyFunc.l0 k 0 a0_0 a0_1 l0_2 l0_3 a0_0 a0_1 (y307 ++ l0_2) ([] : List (S52))) else (none))) = some (r1, r2, r3, r4) := h
  clear h
  obtain ⟨y307, hy307⟩ : ∃ y_ : List Int, y_ = (([] : List Int)) := ⟨_, rfl⟩
  replace H : (if y307.length + l0_2.length < 17592186044416 then (fettleref02_CopyFunc.l0 k 0 a0_0 a0_1 l0_2 l0_3 a0_0 a0_1 (y307 ++ l0_2) ([] : List (S52))) else (none)) = some (r1, r2, r3, r4) := by first | (rw [hy307]; with_reducible exact H) | (have H2_ := (Option.bind_some _ _).symm.trans H; rw [hy307]; with_reducible exact H2_) | exact H
  have Ny307 := Aside0.mk hy307
  clear hy307
  by_cases c2 : y307.length + l0_2.length < 17592186044416
  rotate_left
  · rw [if_neg c2] at H
    exact absurd H (by simp)


  rw [if_pos c2] at H
  have LMc2 := Aside0.mk c2
  clear c2
  obtain ⟨y310, hy310⟩ : ∃ y_ : List Int, y_ = (y307 ++ l0_2) := ⟨_, rfl⟩
  replace H : (fettleref02_CopyFunc.l0 k 0 a0_0 a0_1 l0_2 l0_3 a0_0 a0_1 y310 ([] : List (S52))) = some (r1, r2, r3, r4) := by first | (rw [hy310]; with_reducible exact H) | (have H2_ := (Option.bind_some _ _).symm.trans H; rw [hy310]; with_reducible exact H2_) | exact H
  have Ny310 := Aside0.mk hy310
  clear hy310
  have H' := Aside0.mk H
  clear H
  go_enter Try.func23, Try.ntmps23
  try go_wp2_with (first | ((with_reducible refine gate_dst (N := 1) rfl ?_); refine box_event ?hg (N := 1) ?hd (cs := #[.int .i64 a0_0, .int .i64 a0_1, .slice A0_2 l0_2.length c0_2, .slice A0_3 l0_3.length c0_3]) (t := 25) ?hr ?_; (case hd => rfl); (case hg => rfl); (case hr => first | (go_simp; done) | (go_simp; rfl)); intro gb305 hg w3 hbox hb; have n0_ := Aside0.mk (below_step (by repeat with_reducible first | exact HB.out | apply below_alloc | apply pw_below_drewN | apply below_drew1) hb); have n1_ := Aside0.mk (hbox); have n2_ := Aside0.mk ((by rw [hg]; exact (below_size (by repeat with_reducible first | exact HB.out | apply below_alloc | apply pw_below_drewN | apply below_drew1)) : w.heap.size ≤ gb305)); have n3_ := Aside0.mk ((by rw [hg]; exact (below_size (by repeat with_reducible first | exact HB.out | apply below_alloc | apply pw_below_drewN | apply below_drew1)) : w.heap.size ≤ gb305)); clear HB; have HB := n0_; have BK305 := n1_; have GW305 := n2_; have GE305 := n3_; clear n0_ n1_ n2_ n3_; clear hb hbox hg) | ((with_reducible refine gate_dst (N := 2) rfl ?_); refine box_event ?hg (N := 2) ?hd (cs := #[.int .i64 0, .int .i64 0, .slice none 0 0, .slice none 0 0]) (t := 25) ?hr ?_; (case hd => rfl); (case hg => rfl); (case hr => first | (go_simp; done) | (go_simp; rfl)); intro gb306 hg w4 hbox hb; have n0_ := Aside0.mk (blk_below (g := gb305) (o := .cells #[.int .i64 a0_0, .int .i64 a0_1, .slice A0_2 l0_2.length c0_2, .slice A0_3 l0_3.length c0_3] 25 (0, 0)) (by (with_reducible repeat (first | refine blk_drewN ?_ _ | refine blk_drew ?_ | refine blk_alloc ?_ _)); exact BK305.out) hb); have n1_ := Aside0.mk (below_step (by repeat with_reducible first | exact HB.out | apply below_alloc | apply pw_below_drewN | apply below_drew1 | refine below_set ?_ GE305.out) hb); have n2_ := Aside0.mk (hbox); have n3_ := Aside0.mk ((by rw [hg]; exact (below_size (by repeat with_reducible first | exact HB.out | apply below_alloc | apply pw_below_drewN | apply below_drew1 | refine below_set ?_ GE305.out)) : w.heap.size ≤ gb306)); have n4_ := Aside0.mk ((by rw [hg]; exact (below_size (by repeat with_reducible first | exact HB.out | apply below_alloc | apply pw_below_drewN | apply below_drew1 | refine below_set ?_ GE305.out)) : w.heap.size ≤ gb306)); have n5_ := Aside0.mk ((by rw [hg]; exact Nat.ne_of_lt (blk_lt (g := gb305) (o := .cells #[.int .i64 a0_0, .int .i64 a0_1, .slice A0_2 l0_2.length c0_2, .slice A0_3 l0_3.length c0_3] 25 (0, 0)) (by (with_reducible repeat (first | refine blk_drewN ?_ _ | refine blk_drew ?_ | refine blk_alloc ?_ _)); exact BK305.out)) : gb305 ≠ gb306)); have n6_ := Aside0.mk ((by rw [hg]; exact Nat.ne_of_gt (blk_lt (g := gb305) (o := .cells #[.int .i64 a0_0, .int .i64 a0_1, .slice A0_2 l0_2.length c0_2, .slice A0_3 l0_3.length c0_3] 25 (0, 0)) (by (with_reducible repeat (first | refine blk_drewN ?_ _ | refine blk_drew ?_ | refine blk_alloc ?_ _)); exact BK305.out)) : gb306 ≠ gb305)); clear BK305; clear HB; have BK305 := n0_; have HB := n1_; have BK306 := n2_; have GW306 := n3_; have GE306 := n4_; have NB305_306 := n5_; have NB306_305 := n6_; clear n0_ n1_ n2_ n3_ n4_ n5_ n6_; clear hb hbox hg))
  have n0_ := Aside0.mk (blk_drew BK305.out)
  have n1_ := Aside0.mk (blk_drew BK306.out)
  have n2_ := Aside0.mk (below_drew1 HB.out)
  clear BK305
  clear BK306
  clear HB
  have BK305 := n0_
  have BK306 := n1_
  have HB := n2_
  clear n0_ n1_ n2_
  refine start_ (n := 11) (S := fun w' => w'.cell? ⟨gb305, 0, none⟩ = some (.int .i64 a0_0) ∧ w'.cell? ⟨gb305, 1, none⟩ = some (.int .i64 a0_1) ∧ w'.cell? ⟨gb305, 2, none⟩ = some (.slice A0_2 l0_2.length c0_2) ∧ w'.cell? ⟨gb305, 3, none⟩ = some (.slice A0_3 l0_3.length c0_3)) (ds := []) #[false, false, false, false, false, false, false, false, false, false, false] (by kernel_rfl) rfl rfl ⟨(blk_cell BK305.out 0).trans rfl, (blk_cell BK305.out 1).trans rfl, (blk_cell BK305.out 2).trans rfl, (blk_cell BK305.out 3).trans rfl⟩ (fun hHeld => ?_); refine with_tabW fettleref02_CopyFunc.tab1 fettleref02_CopyFunc.bits1 (fun HT_ HW_ => ?_)
  generalize w4.drew = w5 at BK305 BK306 HB hHeld ⊢
  refine pu 0 10 (bt 11 1) HT_.out ?_
  refine pu 2 12 (bt 11 5) HT_.out ?_
  refine pu 5 15 (bt 11 37) HT_.out ?_
  refine tk 1 11 (bt 11 39) HT_.out HW_.out hHeld rfl rfl (by rintro w' ⟨s0, s1, s2, s3⟩; go_simp; with_reducible rfl) ?_
  refine tk 3 13 (bt 11 47) HT_.out HW_.out hHeld rfl rfl (by rintro w' ⟨s0, s1, s2, s3⟩; go_simp; with_reducible rfl) ?_
  refine tk 6 16 (bt 11 111) HT_.out HW_.out hHeld rfl rfl (by rintro w' ⟨s0, s1, s2, s3⟩; go_simp; with_reducible rfl) ?_
  refine join_ (σ := Value × Value × Nat) 1 (bt 11 1023) (fun s_ => [(14, s_.1), (17, s_.2.1), (3, .pointer (some ⟨s_.2.2, 0, none⟩)), (18, .agg #[.int .i64 a0_0, .int .i64 a0_1, s_.2.1, .slice none 0 0])]) (fun s_ w' => (w'.cell? ⟨gb305, 0, none⟩ = some (.int .i64 a0_0) ∧ w'.cell? ⟨gb305, 1, none⟩ = some (.int .i64 a0_1) ∧ w'.cell? ⟨gb305, 2, none⟩ = some (.slice A0_2 l0_2.length c0_2) ∧ w'.cell? ⟨gb305, 3, none⟩ = some (.slice A0_3 l0_3.length c0_3)) ∧ (Kd.R (Kd.int .i64) 3 w' w.heap.size (fun _ => True) s_.2.1 y310) ∧ (w'.heap[gb305]? = some (.cells #[.int .i64 a0_0, .int .i64 a0_1, .slice A0_2 l0_2.length c0_2, .slice A0_3 l0_3.length c0_3] 25 (0, 0))) ∧ (w'.heap[gb306]? = some (.cells #[.int .i64 0, .int .i64 0, .slice none 0 0, .slice none 0 0] 25 (0, 0))) ∧ (w'.heap[s_.2.2]? = some (.cells #[.int .i64 0, .int .i64 0, .slice none 0 0, .slice none 0 0] 25 (0, 0))) ∧ (w.heap.size ≤ s_.2.2) ∧ (w.heap.size ≤ s_.2.2) ∧ (gb305 ≠ s_.2.2) ∧ (s_.2.2 ≠ gb305) ∧ (gb306 ≠ s_.2.2) ∧ (s_.2.2 ≠ gb306) ∧ (Below w.heap.size w w')) ?_ ?_
  rotate_left
  · intro hCont
    refine two_ (i := 4) (j := 9) (Ni := some 14) (Nj := some 3) (bt 11 127) (bt 11 623) rfl rfl rfl rfl (two_of HT_.out (by kernel_rfl)) (by decide) (by decide) (fun K hK => ?_) (fun K hK => ?_)
    · skip
      refine Kd.R_lit_step (Kd.int .i64) _ 3 ?hg (N := 14) ?hd (xs := ([] : List Int)) (inner := []) (ok := fun _ => True) (okp := fun _ => True) ?hr ?hp (fun _ hk => hk) trivial (Below.refl _ _) (Nat.le_refl _) (by simp) ?_; (case hd => rfl); (case hg => rfl); (case hr => first | (go_simp; done) | (go_simp; rfl)); (case hp => exact (Reps.none _ _))
      intro v308 w6 ho7 hb hg_ hnew_
      clear hg_ hnew_
      rw [← Ny307.out] at ho7
      have n0_ := Aside0.mk (Kd.R_lower ho7 (below_size (by repeat with_reducible first | exact HB.out | apply below_alloc | apply pw_below_drewN | apply below_drew1 | refine below_set ?_ GE305.out | refine below_set ?_ GE306.out)))
      have n1_ := Aside0.mk (blk_below (g := gb305) (o := .cells #[.int .i64 a0_0, .int .i64 a0_1, .slice A0_2 l0_2.length c0_2, .slice A0_3 l0_3.length c0_3] 25 (0, 0)) (by (with_reducible repeat (first | refine blk_drewN ?_ _ | refine blk_drew ?_ | refine blk_alloc ?_ _)); exact BK305.out) hb)
      have n2_ := Aside0.mk (blk_below (g := gb306) (o := .cells #[.int .i64 0, .int .i64 0, .slice none 0 0, .slice none 0 0] 25 (0, 0)) (by (with_reducible repeat (first | refine blk_drewN ?_ _ | refine blk_drew ?_ | refine blk_alloc ?_ _)); exact BK306.out) hb)
      have n3_ := Aside0.mk (below_step (by repeat with_reducible first | exact HB.out | apply below_alloc | apply pw_below_drewN | apply below_drew1 | refine below_set ?_ GE305.out | refine below_set ?_ GE306.out) hb)
      clear BK305
      clear BK306
      clear HB
      have HO309 := n0_
      have BK305 := n1_
      have BK306 := n2_
      have HB := n3_
      clear n0_ n1_ n2_ n3_
      clear hb ho7
      refine hK.out _ _ ⟨(blk_cell BK305.out 0).trans rfl, (blk_cell BK305.out 1).trans rfl, (blk_cell BK305.out 2).trans rfl, (blk_cell BK305.out 3).trans rfl⟩ (fun hHeld => ?_)
      clear hK K
      refine norm_ (a' := ?_) ?_ ?_
      rotate_left
      · show Act.put _ (some 14) _ = _
        simp only [Act.put, List.setIfInBounds_toArray, List.set_cons_zero, List.set_cons_succ, i64_w, i32_w]
        rfl
      refine two_ (i := 7) (j := 9) (Ni := some 17) (Nj := some 3) (bt 11 255) (bt 11 639) rfl rfl rfl rfl (two_of HT_.out (by kernel_rfl)) (by decide) (by decide) (fun K hK => ?_) (fun K hK => ?_)
      · skip
        refine Kd.R_append_rows_step (Kd.int .i64) (w0 := w) w.heap.size (by rfl) (.tmp 14) (.tmp 16) 22 3 (.int .i64 0) 8 rfl Try.underlying22 info3 rfl (by decide) (by omega) v308 y307 l0_2 _ _ _ (fun _ => True) (fun _ => False) rfl rfl ?aO ?aR (fun _ _ h => h) (fun _ h => h.elim) ?aF ?aB ?aS ?aL ?_
        (case aR => repeat (first | exact (C_below HR0_2.out HB.out) | (with_reducible refine C_alloc ?_ _) | (with_reducible refine C_drewN ?_ _) | (with_reducible refine C_drew ?_)))
        (case aB => exact (by repeat with_reducible first | exact HB.out | apply below_alloc | apply pw_below_drewN | apply below_drew1 | refine below_set ?_ GE305.out | refine below_set ?_ GE306.out))
        (case aF => exact (fun _ _ => trivial))
        (case aO => exact (by (with_reducible repeat (first | apply R_alloc | apply R_drewN | apply R_drew)); exact HO309.out))
        (case aS => exact (below_size (by repeat with_reducible first | exact HB.out | apply below_alloc | apply pw_below_drewN | apply below_drew1 | refine below_set ?_ GE305.out | refine below_set ?_ GE306.out)))
        (case aL => have := LMc2.out; omega)
        intro v311 w8 ho hb hg hat
        rw [← Ny310.out] at ho
        have n0_ := Aside0.mk (blk_grown (g := gb305) (o := .cells #[.int .i64 a0_0, .int .i64 a0_1, .slice A0_2 l0_2.length c0_2, .slice A0_3 l0_3.length c0_3] 25 (0, 0)) (by (with_reducible repeat (first | refine blk_drewN ?_ _ | refine blk_drew ?_ | refine blk_alloc ?_ _)); exact BK305.out) hg (Kd.R_ne HO309.out BK305.out (by decide)))
        have n1_ := Aside0.mk (blk_grown (g := gb306) (o := .cells #[.int .i64 0, .int .i64 0, .slice none 0 0, .slice none 0 0] 25 (0, 0)) (by (with_reducible repeat (first | refine blk_drewN ?_ _ | refine blk_drew ?_ | refine blk_alloc ?_ _)); exact BK306.out) hg (Kd.R_ne HO309.out BK306.out (by decide)))
        have n2_ := Aside0.mk (hb)
        have n3_ := Aside0.mk (ho)
        clear BK305
        clear BK306
        clear HB
        clear HO309
        have BK305 := n0_
        have BK306 := n1_
        have HB := n2_
        have HO312 := n3_
        clear n0_ n1_ n2_ n3_
        clear ho hb hg hat
        obtain ⟨Ao9, co9, eo9⟩ := Kd.R_slice HO312.out
        (first | subst eo9 | (injection eo9 with f1_ f2_ f3_; have f4_ := f1_.symm; have f5_ := f3_.symm; clear f1_ f2_ f3_; subst f4_; subst f5_))
        refine hK.out _ _ ⟨(blk_cell BK305.out 0).trans rfl, (blk_cell BK305.out 1).trans rfl, (blk_cell BK305.out 2).trans rfl, (blk_cell BK305.out 3).trans rfl⟩ (fun hHeld => ?_)
        clear hK K
        refine norm_ (a' := ?_) ?_ ?_
        rotate_left
        · show Act.put _ (some 17) _ = _
          simp only [Act.put, List.setIfInBounds_toArray, List.set_cons_zero, List.set_cons_succ, i64_w, i32_w]
          rfl
        refine pu 8 18 (bt 11 511) HT_.out ?_
        refine one_ (i := 9) (N := some 3) (bt 11 1023) rfl rfl (one_of HT_.out (by kernel_rfl)) (by decide) (fun K hK => ?_)
        refine box_step ?hg (N := 3) ?hd (cs := #[.int .i64 0, .int .i64 0, .slice none 0 0, .slice none 0 0]) (t := 25) ?hr ?_; (case hd => rfl); (case hg => rfl); (case hr => first | (go_simp; done) | (go_simp; rfl))
        intro gb313 hg w10 hbox hb
        have n0_ := Aside0.mk (Kd.R_below (by (with_reducible repeat (first | apply R_alloc | apply R_drewN | apply R_drew)); exact HO312.out) hb)
        have n1_ := Aside0.mk (blk_below (g := gb305) (o := .cells #[.int .i64 a0_0, .int .i64 a0_1, .slice A0_2 l0_2.length c0_2, .slice A0_3 l0_3.length c0_3] 25 (0, 0)) (by (with_reducible repeat (first | refine blk_drewN ?_ _ | refine blk_drew ?_ | refine blk_alloc ?_ _)); exact BK305.out) hb)
        have n2_ := Aside0.mk (blk_below (g := gb306) (o := .cells #[.int .i64 0, .int .i64 0, .slice none 0 0, .slice none 0 0] 25 (0, 0)) (by (with_reducible repeat (first | refine blk_drewN ?_ _ | refine blk_drew ?_ | refine blk_alloc ?_ _)); exact BK306.out) hb)
        have n3_ := Aside0.mk (below_step (by repeat with_reducible first | exact HB.out | apply below_alloc | apply pw_below_drewN | apply below_drew1 | refine below_set ?_ GE305.out | refine below_set ?_ GE306.out) hb)
        have n4_ := Aside0.mk (hbox)
        have n5_ := Aside0.mk ((by rw [hg]; exact (below_size (by repeat with_reducible first | exact HB.out | apply below_alloc | apply pw_below_drewN | apply below_drew1 | refine below_set ?_ GE305.out | refine below_set ?_ GE306.out)) : w.heap.size ≤ gb313))
        have n6_ := Aside0.mk ((by rw [hg]; exact (below_size (by repeat with_reducible first | exact HB.out | apply below_alloc | apply pw_below_drewN | apply below_drew1 | refine below_set ?_ GE305.out | refine below_set ?_ GE306.out)) : w.heap.size ≤ gb313))
        have n7_ := Aside0.mk ((by rw [hg]; exact Nat.ne_of_lt (blk_lt (g := gb305) (o := .cells #[.int .i64 a0_0, .int .i64 a0_1, .slice A0_2 l0_2.length c0_2, .slice A0_3 l0_3.length c0_3] 25 (0, 0)) (by (with_reducible repeat (first | refine blk_drewN ?_ _ | refine blk_drew ?_ | refine blk_alloc ?_ _)); exact BK305.out)) : gb305 ≠ gb313))
        have n8_ := Aside0.mk ((by rw [hg]; exact Nat.ne_of_gt (blk_lt (g := gb305) (o := .cells #[.int .i64 a0_0, .int .i64 a0_1, .slice A0_2 l0_2.length c0_2, .slice A0_3 l0_3.length c0_3] 25 (0, 0)) (by (with_reducible repeat (first | refine blk_drewN ?_ _ | refine blk_drew ?_ | refine blk_alloc ?_ _)); exact BK305.out)) : gb313 ≠ gb305))
        have n9_ := Aside0.mk ((by rw [hg]; exact Nat.ne_of_lt (blk_lt (g := gb306) (o := .cells #[.int .i64 0, .int .i64 0, .slice none 0 0, .slice none 0 0] 25 (0, 0)) (by (with_reducible repeat (first | refine blk_drewN ?_ _ | refine blk_drew ?_ | refine blk_alloc ?_ _)); exact BK306.out)) : gb306 ≠ gb313))
        have n10_ := Aside0.mk ((by rw [hg]; exact Nat.ne_of_gt (blk_lt (g := gb306) (o := .cells #[.int .i64 0, .int .i64 0, .slice none 0 0, .slice none 0 0] 25 (0, 0)) (by (with_reducible repeat (first | refine blk_drewN ?_ _ | refine blk_drew ?_ | refine blk_alloc ?_ _)); exact BK306.out)) : gb313 ≠ gb306))
        clear HO312
        clear BK305
        clear BK306
        clear HB
        have HO312 := n0_
        have BK305 := n1_
        have BK306 := n2_
        have HB := n3_
        have BK313 := n4_
        have GW313 := n5_
        have GE313 := n6_
        have NB305_313 := n7_
        have NB313_305 := n8_
        have NB306_313 := n9_
        have NB313_306 := n10_
        clear n0_ n1_ n2_ n3_ n4_ n5_ n6_ n7_ n8_ n9_ n10_
        clear hb hbox hg
        refine hK.out _ _ ⟨(blk_cell BK305.out 0).trans rfl, (blk_cell BK305.out 1).trans rfl, (blk_cell BK305.out 2).trans rfl, (blk_cell BK305.out 3).trans rfl⟩ (fun hHeld => ?_)
        clear hK K
        refine norm_ (a' := ?_) ?_ ?_
        rotate_left
        · show Act.put _ (some 3) _ = _
          simp only [Act.put, List.setIfInBounds_toArray, List.set_cons_zero, List.set_cons_succ, i64_w, i32_w]
          rfl
        exact norm_ (by simp only [putAll, Act.put, List.setIfInBounds_toArray, List.set_cons_zero, List.set_cons_succ]) (hCont (v308, .slice Ao9 y310.length co9, gb313) _ ⟨hHeld, (by (with_reducible repeat (first | apply R_alloc | apply R_drewN | apply R_drew)); exact HO312.out), (by (with_reducible repeat (first | refine blk_drewN ?_ _ | refine blk_drew ?_ | refine blk_alloc ?_ _)); exact BK305.out), (by (with_reducible repeat (first | refine blk_drewN ?_ _ | refine blk_drew ?_ | refine blk_alloc ?_ _)); exact BK306.out), (by (with_reducible repeat (first | refine blk_drewN ?_ _ | refine blk_drew ?_ | refine blk_alloc ?_ _)); exact BK313.out), GW313.out, GE313.out, NB305_313.out, NB313_305.out, NB306_313.out, NB313_306.out, (by repeat with_reducible first | exact HB.out | apply below_alloc | apply pw_below_drewN | apply below_drew1 | refine below_set ?_ GE305.out | refine below_set ?_ GE306.out | refine below_set ?_ GE313.out)⟩)
      skip
      refine box_step ?hg (N := 3) ?hd (cs := #[.int .i64 0, .int .i64 0, .slice none 0 0, .slice none 0 0]) (t := 25) ?hr ?_; (case hd => rfl); (case hg => rfl); (case hr => first | (go_simp; done) | (go_simp; rfl))
      intro gb313 hg w8 hbox hb
      have n0_ := Aside0.mk (Kd.R_below (by (with_reducible repeat (first | apply R_alloc | apply R_drewN | apply R_drew)); exact HO309.out) hb)
      have n1_ := Aside0.mk (blk_below (g := gb305) (o := .cells #[.int .i64 a0_0, .int .i64 a0_1, .slice A0_2 l0_2.length c0_2, .slice A0_3 l0_3.length c0_3] 25 (0, 0)) (by (with_reducible repeat (first | refine blk_drewN ?_ _ | refine blk_drew ?_ | refine blk_alloc ?_ _)); exact BK305.out) hb)
      have n2_ := Aside0.mk (blk_below (g := gb306) (o := .cells #[.int .i64 0, .int .i64 0, .slice none 0 0, .slice none 0 0] 25 (0, 0)) (by (with_reducible repeat (first | refine blk_drewN ?_ _ | refine blk_drew ?_ | refine blk_alloc ?_ _)); exact BK306.out) hb)
      have n3_ := Aside0.mk (below_step (by repeat with_reducible first | exact HB.out | apply below_alloc | apply pw_below_drewN | apply below_drew1 | refine below_set ?_ GE305.out | refine below_set ?_ GE306.out) hb)
      have n4_ := Aside0.mk (hbox)
      have n5_ := Aside0.mk ((by rw [hg]; exact (below_size (by repeat with_reducible first | exact HB.out | apply below_alloc | apply pw_below_drewN | apply below_drew1 | refine below_set ?_ GE305.out | refine below_set ?_ GE306.out)) : w.heap.size ≤ gb313))
      have n6_ := Aside0.mk ((by rw [hg]; exact (below_size (by repeat with_reducible first | exact HB.out | apply below_alloc | apply pw_below_drewN | apply below_drew1 | refine below_set ?_ GE305.out | refine below_set ?_ GE306.out)) : w.heap.size ≤ gb313))
      have n7_ := Aside0.mk ((by rw [hg]; exact Nat.ne_of_lt (blk_lt (g := gb305) (o := .cells #[.int .i64 a0_0, .int .i64 a0_1, .slice A0_2 l0_2.length c0_2, .slice A0_3 l0_3.length c0_3] 25 (0, 0)) (by (with_reducible repeat (first | refine blk_drewN ?_ _ | refine blk_drew ?_ | refine blk_alloc ?_ _)); exact BK305.out)) : gb305 ≠ gb313))
      have n8_ := Aside0.mk ((by rw [hg]; exact Nat.ne_of_gt (blk_lt (g := gb305) (o := .cells #[.int .i64 a0_0, .int .i64 a0_1, .slice A0_2 l0_2.length c0_2, .slice A0_3 l0_3.length c0_3] 25 (0, 0)) (by (with_reducible repeat (first | refine blk_drewN ?_ _ | refine blk_drew ?_ | refine blk_alloc ?_ _)); exact BK305.out)) : gb313 ≠ gb305))
      have n9_ := Aside0.mk ((by rw [hg]; exact Nat.ne_of_lt (blk_lt (g := gb306) (o := .cells #[.int .i64 0, .int .i64 0, .slice none 0 0, .slice none 0 0] 25 (0, 0)) (by (with_reducible repeat (first | refine blk_drewN ?_ _ | refine blk_drew ?_ | refine blk_alloc ?_ _)); exact BK306.out)) : gb306 ≠ gb313))
      have n10_ := Aside0.mk ((by rw [hg]; exact Nat.ne_of_gt (blk_lt (g := gb306) (o := .cells #[.int .i64 0, .int .i64 0, .slice none 0 0, .slice none 0 0] 25 (0, 0)) (by (with_reducible repeat (first | refine blk_drewN ?_ _ | refine blk_drew ?_ | refine blk_alloc ?_ _)); exact BK306.out)) : gb313 ≠ gb306))
      clear HO309
      clear BK305
      clear BK306
      clear HB
      have HO309 := n0_
      have BK305 := n1_
      have BK306 := n2_
      have HB := n3_
      have BK313 := n4_
      have GW313 := n5_
      have GE313 := n6_
      have NB305_313 := n7_
      have NB313_305 := n8_
      have NB306_313 := n9_
      have NB313_306 := n10_
      clear n0_ n1_ n2_ n3_ n4_ n5_ n6_ n7_ n8_ n9_ n10_
      clear hb hbox hg
      refine hK.out _ _ ⟨(blk_cell BK305.out 0).trans rfl, (blk_cell BK305.out 1).trans rfl, (blk_cell BK305.out 2).trans rfl, (blk_cell BK305.out 3).trans rfl⟩ (fun hHeld => ?_)
      clear hK K
      refine norm_ (a' := ?_) ?_ ?_
      rotate_left
      · show Act.put _ (some 3) _ = _
        simp only [Act.put, List.setIfInBounds_toArray, List.set_cons_zero, List.set_cons_succ, i64_w, i32_w]
        rfl
      refine one_ (i := 7) (N := some 17) (bt 11 767) rfl rfl (one_of HT_.out (by kernel_rfl)) (by decide) (fun K hK => ?_)
      refine Kd.R_append_rows_step (Kd.int .i64) (w0 := w) w.heap.size (by rfl) (.tmp 14) (.tmp 16) 22 3 (.int .i64 0) 8 rfl Try.underlying22 info3 rfl (by decide) (by omega) v308 y307 l0_2 _ _ _ (fun _ => True) (fun _ => False) rfl rfl ?aO ?aR (fun _ _ h => h) (fun _ h => h.elim) ?aF ?aB ?aS ?aL ?_
      (case aR => repeat (first | exact (C_below HR0_2.out HB.out) | (with_reducible refine C_alloc ?_ _) | (with_reducible refine C_drewN ?_ _) | (with_reducible refine C_drew ?_)))
      (case aB => exact (by repeat with_reducible first | exact HB.out | apply below_alloc | apply pw_below_drewN | apply below_drew1 | refine below_set ?_ GE305.out | refine below_set ?_ GE306.out | refine below_set ?_ GE313.out))
      (case aF => exact (fun _ _ => trivial))
      (case aO => exact (by (with_reducible repeat (first | apply R_alloc | apply R_drewN | apply R_drew)); exact HO309.out))
      (case aS => exact (below_size (by repeat with_reducible first | exact HB.out | apply below_alloc | apply pw_below_drewN | apply below_drew1 | refine below_set ?_ GE305.out | refine below_set ?_ GE306.out | refine below_set ?_ GE313.out)))
      (case aL => have := LMc2.out; omega)
      intro v311 w9 ho hb hg hat
      rw [← Ny310.out] at ho
      have n0_ := Aside0.mk (blk_grown (g := gb305) (o := .cells #[.int .i64 a0_0, .int .i64 a0_1, .slice A0_2 l0_2.length c0_2, .slice A0_3 l0_3.length c0_3] 25 (0, 0)) (by (with_reducible repeat (first | refine blk_drewN ?_ _ | refine blk_drew ?_ | refine blk_alloc ?_ _)); exact BK305.out) hg (Kd.R_ne HO309.out BK305.out (by decide)))
      have n1_ := Aside0.mk (blk_grown (g := gb306) (o := .cells #[.int .i64 0, .int .i64 0, .slice none 0 0, .slice none 0 0] 25 (0, 0)) (by (with_reducible repeat (first | refine blk_drewN ?_ _ | refine blk_drew ?_ | refine blk_alloc ?_ _)); exact BK306.out) hg (Kd.R_ne HO309.out BK306.out (by decide)))
      have n2_ := Aside0.mk (blk_grown (g := gb313) (o := .cells #[.int .i64 0, .int .i64 0, .slice none 0 0, .slice none 0 0] 25 (0, 0)) (by (with_reducible repeat (first | refine blk_drewN ?_ _ | refine blk_drew ?_ | refine blk_alloc ?_ _)); exact BK313.out) hg (Kd.R_ne HO309.out BK313.out (by decide)))
      have n3_ := Aside0.mk (hb)
      have n4_ := Aside0.mk (ho)
      clear BK305
      clear BK306
      clear BK313
      clear HB
      clear HO309
      have BK305 := n0_
      have BK306 := n1_
      have BK313 := n2_
      have HB := n3_
      have HO312 := n4_
      clear n0_ n1_ n2_ n3_ n4_
      clear ho hb hg hat
      obtain ⟨Ao10, co10, eo10⟩ := Kd.R_slice HO312.out
      (first | subst eo10 | (injection eo10 with f1_ f2_ f3_; have f4_ := f1_.symm; have f5_ := f3_.symm; clear f1_ f2_ f3_; subst f4_; subst f5_))
      refine hK.out _ _ ⟨(blk_cell BK305.out 0).trans rfl, (blk_cell BK305.out 1).trans rfl, (blk_cell BK305.out 2).trans rfl, (blk_cell BK305.out 3).trans rfl⟩ (fun hHeld => ?_)
      clear hK K
      refine norm_ (a' := ?_) ?_ ?_
      rotate_left
      · show Act.put _ (some 17) _ = _
        simp only [Act.put, List.setIfInBounds_toArray, List.set_cons_zero, List.set_cons_succ, i64_w, i32_w]
        rfl
      refine pu 8 18 (bt 11 1023) HT_.out ?_
      exact norm_ (by simp only [putAll, Act.put, List.setIfInBounds_toArray, List.set_cons_zero, List.set_cons_succ]) (hCont (v308, .slice Ao10 y310.length co10, gb313) _ ⟨hHeld, (by (with_reducible repeat (first | apply R_alloc | apply R_drewN | apply R_drew)); exact HO312.out), (by (with_reducible repeat (first | refine blk_drewN ?_ _ | refine blk_drew ?_ | refine blk_alloc ?_ _)); exact BK305.out), (by (with_reducible repeat (first | refine blk_drewN ?_ _ | refine blk_drew ?_ | refine blk_alloc ?_ _)); exact BK306.out), (by (with_reducible repeat (first | refine blk_drewN ?_ _ | refine blk_drew ?_ | refine blk_alloc ?_ _)); exact BK313.out), GW313.out, GE313.out, NB305_313.out, NB313_305.out, NB306_313.out, NB313_306.out, (by repeat with_reducible first | exact HB.out | apply below_alloc | apply pw_below_drewN | apply below_drew1 | refine below_set ?_ GE305.out | refine below_set ?_ GE306.out | refine below_set ?_ GE313.out)⟩)
    skip
    refine box_step ?hg (N := 3) ?hd (cs := #[.int .i64 0, .int .i64 0, .slice none 0 0, .slice none 0 0]) (t := 25) ?hr ?_; (case hd => rfl); (case hg => rfl); (case hr => first | (go_simp; done) | (go_simp; rfl))
    intro gb313 hg w6 hbox hb
    have n0_ := Aside0.mk (blk_below (g := gb305) (o := .cells #[.int .i64 a0_0, .int .i64 a0_1, .slice A0_2 l0_2.length c0_2, .slice A0_3 l0_3.length c0_3] 25 (0, 0)) (by (with_reducible repeat (first | refine blk_drewN ?_ _ | refine blk_drew ?_ | refine blk_alloc ?_ _)); exact BK305.out) hb)
    have n1_ := Aside0.mk (blk_below (g := gb306) (o := .cells #[.int .i64 0, .int .i64 0, .slice none 0 0, .slice none 0 0] 25 (0, 0)) (by (with_reducible repeat (first | refine blk_drewN ?_ _ | refine blk_drew ?_ | refine blk_alloc ?_ _)); exact BK306.out) hb)
    have n2_ := Aside0.mk (below_step (by repeat with_reducible first | exact HB.out | apply below_alloc | apply pw_below_drewN | apply below_drew1 | refine below_set ?_ GE305.out | refine below_set ?_ GE306.out) hb)
    have n3_ := Aside0.mk (hbox)
    have n4_ := Aside0.mk ((by rw [hg]; exact (below_size (by repeat with_reducible first | exact HB.out | apply below_alloc | apply pw_below_drewN | apply below_drew1 | refine below_set ?_ GE305.out | refine below_set ?_ GE306.out)) : w.heap.size ≤ gb313))
    have n5_ := Aside0.mk ((by rw [hg]; exact (below_size (by repeat with_reducible first | exact HB.out | apply below_alloc | apply pw_below_drewN | apply below_drew1 | refine below_set ?_ GE305.out | refine below_set ?_ GE306.out)) : w.heap.size ≤ gb313))
    have n6_ := Aside0.mk ((by rw [hg]; exact Nat.ne_of_lt (blk_lt (g := gb305) (o := .cells #[.int .i64 a0_0, .int .i64 a0_1, .slice A0_2 l0_2.length c0_2, .slice A0_3 l0_3.length c0_3] 25 (0, 0)) (by (with_reducible repeat (first | refine blk_drewN ?_ _ | refine blk_drew ?_ | refine blk_alloc ?_ _)); exact BK305.out)) : gb305 ≠ gb313))
    have n7_ := Aside0.mk ((by rw [hg]; exact Nat.ne_of_gt (blk_lt (g := gb305) (o := .cells #[.int .i64 a0_0, .int .i64 a0_1, .slice A0_2 l0_2.length c0_2, .slice A0_3 l0_3.length c0_3] 25 (0, 0)) (by (with_reducible repeat (first | refine blk_drewN ?_ _ | refine blk_drew ?_ | refine blk_alloc ?_ _)); exact BK305.out)) : gb313 ≠ gb305))
    have n8_ := Aside0.mk ((by rw [hg]; exact Nat.ne_of_lt (blk_lt (g := gb306) (o := .cells #[.int .i64 0, .int .i64 0, .slice none 0 0, .slice none 0 0] 25 (0, 0)) (by (with_reducible repeat (first | refine blk_drewN ?_ _ | refine blk_drew ?_ | refine blk_alloc ?_ _)); exact BK306.out)) : gb306 ≠ gb313))
    have n9_ := Aside0.mk ((by rw [hg]; exact Nat.ne_of_gt (blk_lt (g := gb306) (o := .cells #[.int .i64 0, .int .i64 0, .slice none 0 0, .slice none 0 0] 25 (0, 0)) (by (with_reducible repeat (first | refine blk_drewN ?_ _ | refine blk_drew ?_ | refine blk_alloc ?_ _)); exact BK306.out)) : gb313 ≠ gb306))
    clear BK305
    clear BK306
    clear HB
    have BK305 := n0_
    have BK306 := n1_
    have HB := n2_
    have BK313 := n3_
    have GW313 := n4_
    have GE313 := n5_
    have NB305_313 := n6_
    have NB313_305 := n7_
    have NB306_313 := n8_
    have NB313_306 := n9_
    clear n0_ n1_ n2_ n3_ n4_ n5_ n6_ n7_ n8_ n9_
    clear hb hbox hg
    refine hK.out _ _ ⟨(blk_cell BK305.out 0).trans rfl, (blk_cell BK305.out 1).trans rfl, (blk_cell BK305.out 2).trans rfl, (blk_cell BK305.out 3).trans rfl⟩ (fun hHeld => ?_)
    clear hK K
    refine norm_ (a' := ?_) ?_ ?_
    rotate_left
    · show Act.put _ (some 3) _ = _
      simp only [Act.put, List.setIfInBounds_toArray, List.set_cons_zero, List.set_cons_succ, i64_w, i32_w]
      rfl
    refine one_ (i := 4) (N := some 14) (bt 11 639) rfl rfl (one_of HT_.out (by kernel_rfl)) (by decide) (fun K hK => ?_)
    refine Kd.R_lit_step (Kd.int .i64) _ 3 ?hg (N := 14) ?hd (xs := ([] : List Int)) (inner := []) (ok := fun _ => True) (okp := fun _ => True) ?hr ?hp (fun _ hk => hk) trivial (Below.refl _ _) (Nat.le_refl _) (by simp) ?_; (case hd => rfl); (case hg => rfl); (case hr => first | (go_simp; done) | (go_simp; rfl)); (case hp => exact (Reps.none _ _))
    intro v308 w7 ho8 hb hg_ hnew_
    clear hg_ hnew_
    rw [← Ny307.out] at ho8
    have n0_ := Aside0.mk (Kd.R_lower ho8 (below_size (by repeat with_reducible first | exact HB.out | apply below_alloc | apply pw_below_drewN | apply below_drew1 | refine below_set ?_ GE305.out | refine below_set ?_ GE306.out | refine below_set ?_ GE313.out)))
    have n1_ := Aside0.mk (blk_below (g := gb305) (o := .cells #[.int .i64 a0_0, .int .i64 a0_1, .slice A0_2 l0_2.length c0_2, .slice A0_3 l0_3.length c0_3] 25 (0, 0)) (by (with_reducible repeat (first | refine blk_drewN ?_ _ | refine blk_drew ?_ | refine blk_alloc ?_ _)); exact BK305.out) hb)
    have n2_ := Aside0.mk (blk_below (g := gb306) (o := .cells #[.int .i64 0, .int .i64 0, .slice none 0 0, .slice none 0 0] 25 (0, 0)) (by (with_reducible repeat (first | refine blk_drewN ?_ _ | refine blk_drew ?_ | refine blk_alloc ?_ _)); exact BK306.out) hb)
    have n3_ := Aside0.mk (blk_below (g := gb313) (o := .cells #[.int .i64 0, .int .i64 0, .slice none 0 0, .slice none 0 0] 25 (0, 0)) (by (with_reducible repeat (first | refine blk_drewN ?_ _ | refine blk_drew ?_ | refine blk_alloc ?_ _)); exact BK313.out) hb)
    have n4_ := Aside0.mk (below_step (by repeat with_reducible first | exact HB.out | apply below_alloc | apply pw_below_drewN | apply below_drew1 | refine below_set ?_ GE305.out | refine below_set ?_ GE306.out | refine below_set ?_ GE313.out) hb)
    clear BK305
    clear BK306
    clear BK313
    clear HB
    have HO309 := n0_
    have BK305 := n1_
    have BK306 := n2_
    have BK313 := n3_
    have HB := n4_
    clear n0_ n1_ n2_ n3_ n4_
    clear hb ho8
    refine hK.out _ _ ⟨(blk_cell BK305.out 0).trans rfl, (blk_cell BK305.out 1).trans rfl, (blk_cell BK305.out 2).trans rfl, (blk_cell BK305.out 3).trans rfl⟩ (fun hHeld => ?_)
    clear hK K
    refine norm_ (a' := ?_) ?_ ?_
    rotate_left
    · show Act.put _ (some 14) _ = _
      simp only [Act.put, List.setIfInBounds_toArray, List.set_cons_zero, List.set_cons_succ, i64_w, i32_w]
      rfl
    refine one_ (i := 7) (N := some 17) (bt 11 767) rfl rfl (one_of HT_.out (by kernel_rfl)) (by decide) (fun K hK => ?_)
    refine Kd.R_append_rows_step (Kd.int .i64) (w0 := w) w.heap.size (by rfl) (.tmp 14) (.tmp 16) 22 3 (.int .i64 0) 8 rfl Try.underlying22 info3 rfl (by decide) (by omega) v308 y307 l0_2 _ _ _ (fun _ => True) (fun _ => False) rfl rfl ?aO ?aR (fun _ _ h => h) (fun _ h => h.elim) ?aF ?aB ?aS ?aL ?_
    (case aR => repeat (first | exact (C_below HR0_2.out HB.out) | (with_reducible refine C_alloc ?_ _) | (with_reducible refine C_drewN ?_ _) | (with_reducible refine C_drew ?_)))
    (case aB => exact (by repeat with_reducible first | exact HB.out | apply below_alloc | apply pw_below_drewN | apply below_drew1 | refine below_set ?_ GE305.out | refine below_set ?_ GE306.out | refine below_set ?_ GE313.out))
    (case aF => exact (fun _ _ => trivial))
    (case aO => exact (by (with_reducible repeat (first | apply R_alloc | apply R_drewN | apply R_drew)); exact HO309.out))
    (case aS => exact (below_size (by repeat with_reducible first | exact HB.out | apply below_alloc | apply pw_below_drewN | apply below_drew1 | refine below_set ?_ GE305.out | refine below_set ?_ GE306.out | refine below_set ?_ GE313.out)))
    (case aL => have := LMc2.out; omega)
    intro v311 w9 ho hb hg hat
    rw [← Ny310.out] at ho
    have n0_ := Aside0.mk (blk_grown (g := gb305) (o := .cells #[.int .i64 a0_0, .int .i64 a0_1, .slice A0_2 l0_2.length c0_2, .slice A0_3 l0_3.length c0_3] 25 (0, 0)) (by (with_reducible repeat (first | refine blk_drewN ?_ _ | refine blk_drew ?_ | refine blk_alloc ?_ _)); exact BK305.out) hg (Kd.R_ne HO309.out BK305.out (by decide)))
    have n1_ := Aside0.mk (blk_grown (g := gb306) (o := .cells #[.int .i64 0, .int .i64 0, .slice none 0 0, .slice none 0 0] 25 (0, 0)) (by (with_reducible repeat (first | refine blk_drewN ?_ _ | refine blk_drew ?_ | refine blk_alloc ?_ _)); exact BK306.out) hg (Kd.R_ne HO309.out BK306.out (by decide)))
    have n2_ := Aside0.mk (blk_grown (g := gb313) (o := .cells #[.int .i64 0, .int .i64 0, .slice none 0 0, .slice none 0 0] 25 (0, 0)) (by (with_reducible repeat (first | refine blk_drewN ?_ _ | refine blk_drew ?_ | refine blk_alloc ?_ _)); exact BK313.out) hg (Kd.R_ne HO309.out BK313.out (by decide)))
    have n3_ := Aside0.mk (hb)
    have n4_ := Aside0.mk (ho)
    clear BK305
    clear BK306
    clear BK313
    clear HB
    clear HO309
    have BK305 := n0_
    have BK306 := n1_
    have BK313 := n2_
    have HB := n3_
    have HO312 := n4_
    clear n0_ n1_ n2_ n3_ n4_
    clear ho hb hg hat
    obtain ⟨Ao10, co10, eo10⟩ := Kd.R_slice HO312.out
    (first | subst eo10 | (injection eo10 with f1_ f2_ f3_; have f4_ := f1_.symm; have f5_ := f3_.symm; clear f1_ f2_ f3_; subst f4_; subst f5_))
    refine hK.out _ _ ⟨(blk_cell BK305.out 0).trans rfl, (blk_cell BK305.out 1).trans rfl, (blk_cell BK305.out 2).trans rfl, (blk_cell BK305.out 3).trans rfl⟩ (fun hHeld => ?_)
    clear hK K
    refine norm_ (a' := ?_) ?_ ?_
    rotate_left
    · show Act.put _ (some 17) _ = _
      simp only [Act.put, List.setIfInBounds_toArray, List.set_cons_zero, List.set_cons_succ, i64_w, i32_w]
      rfl
    refine pu 8 18 (bt 11 1023) HT_.out ?_
    exact norm_ (by simp only [putAll, Act.put, List.setIfInBounds_toArray, List.set_cons_zero, List.set_cons_succ]) (hCont (v308, .slice Ao10 y310.length co10, gb313) _ ⟨hHeld, (by (with_reducible repeat (first | apply R_alloc | apply R_drewN | apply R_drew)); exact HO312.out), (by (with_reducible repeat (first | refine blk_drewN ?_ _ | refine blk_drew ?_ | refine blk_alloc ?_ _)); exact BK305.out), (by (with_reducible repeat (first | refine blk_drewN ?_ _ | refine blk_drew ?_ | refine blk_alloc ?_ _)); exact BK306.out), (by (with_reducible repeat (first | refine blk_drewN ?_ _ | refine blk_drew ?_ | refine blk_alloc ?_ _)); exact BK313.out), GW313.out, GE313.out, NB305_313.out, NB313_305.out, NB306_313.out, NB313_306.out, (by repeat with_reducible first | exact HB.out | apply below_alloc | apply pw_below_drewN | apply below_drew1 | refine below_set ?_ GE305.out | refine below_set ?_ GE306.out | refine below_set ?_ GE313.out)⟩)
  rintro ⟨v308, v311, gb313⟩ w11 ⟨hS_, h0_, h1_, h2_, h3_, h4_, h5_, h6_, h7_, h8_, h9_, h10_⟩
  have n0_ : Aside0 (Kd.R (Kd.int .i64) 3 w11 w.heap.size (fun _ => True) v311 y310) := ⟨h0_⟩
  have n1_ : Aside0 (w11.heap[gb305]? = some (.cells #[.int .i64 a0_0, .int .i64 a0_1, .slice A0_2 l0_2.length c0_2, .slice A0_3 l0_3.length c0_3] 25 (0, 0))) := ⟨h1_⟩
  have n2_ : Aside0 (w11.heap[gb306]? = some (.cells #[.int .i64 0, .int .i64 0, .slice none 0 0, .slice none 0 0] 25 (0, 0))) := ⟨h2_⟩
  have n3_ : Aside0 (w11.heap[gb313]? = some (.cells #[.int .i64 0, .int .i64 0, .slice none 0 0, .slice none 0 0] 25 (0, 0))) := ⟨h3_⟩
  have n4_ : Aside0 (w.heap.size ≤ gb313) := ⟨h4_⟩
  have n5_ : Aside0 (w.heap.size ≤ gb313) := ⟨h5_⟩
  have n6_ : Aside0 (gb305 ≠ gb313) := ⟨h6_⟩
  have n7_ : Aside0 (gb313 ≠ gb305) := ⟨h7_⟩
  have n8_ : Aside0 (gb306 ≠ gb313) := ⟨h8_⟩
  have n9_ : Aside0 (gb313 ≠ gb306) := ⟨h9_⟩
  have n10_ : Aside0 (Below w.heap.size w w11) := ⟨h10_⟩
  clear BK305
  clear BK306
  clear HB
  clear h0_ h1_ h2_ h3_ h4_ h5_ h6_ h7_ h8_ h9_ h10_
  have HO312 := n0_
  have BK305 := n1_
  have BK306 := n2_
  have BK313 := n3_
  have GW313 := n4_
  have GE313 := n5_
  have NB305_313 := n6_
  have NB313_305 := n7_
  have NB306_313 := n8_
  have NB313_306 := n9_
  have HB := n10_
  clear n0_ n1_ n2_ n3_ n4_ n5_ n6_ n7_ n8_ n9_ n10_
  have hHeld : w11.cell? ⟨gb305, 0, none⟩ = some (.int .i64 a0_0) ∧ w11.cell? ⟨gb305, 1, none⟩ = some (.int .i64 a0_1) ∧ w11.cell? ⟨gb305, 2, none⟩ = some (.slice A0_2 l0_2.length c0_2) ∧ w11.cell? ⟨gb305, 3, none⟩ = some (.slice A0_3 l0_3.length c0_3) := hS_
  obtain ⟨Ao12, co12, eo12⟩ := Kd.R_slice HO312.out
  (first | subst eo12 | (injection eo12 with f1_ f2_ f3_; have f4_ := f1_.symm; have f5_ := f3_.symm; clear f1_ f2_ f3_; subst f4_; subst f5_))
  refine norm_ (a' := ?_) ?_ ?_
  rotate_left
  · simp only [putAll, Act.put, List.setIfInBounds_toArray, List.set_cons_zero, List.set_cons_succ]
    rfl
  refine one_ (i := 10) (N := none) (bt 11 2047) rfl rfl (one_of HT_.out (by kernel_rfl)) (by decide) (fun K hK => ?_)
  have hs13 : w11.cell? ⟨gb313, 0, none⟩ = some (.int .i64 0) := (blk_cell BK313.out 0).trans rfl
  have hfs13 := blk_frozen BK313.out 0
  have hns13_0 := NB305_313.out
  have hns13_1 := NB306_313.out
  have hms13_0 := NB313_305.out
  have hms13_1 := NB313_306.out
  have hs14 : w11.cell? ⟨gb313, 1, none⟩ = some (.int .i64 0) := (blk_cell BK313.out 1).trans rfl
  have hfs14 := blk_frozen BK313.out 1
  have hns14_0 := NB305_313.out
  have hns14_1 := NB306_313.out
  have hms14_0 := NB313_305.out
  have hms14_1 := NB313_306.out
  have hs15 : w11.cell? ⟨gb313, 2, none⟩ = some (.slice none 0 0) := (blk_cell BK313.out 2).trans rfl
  have hfs15 := blk_frozen BK313.out 2
  have hns15_0 := NB305_313.out
  have hns15_1 := NB306_313.out
  have hms15_0 := NB313_305.out
  have hms15_1 := NB313_306.out
  have hs16 : w11.cell? ⟨gb313, 3, none⟩ = some (.slice none 0 0) := (blk_cell BK313.out 3).trans rfl
  have hfs16 := blk_frozen BK313.out 3
  have hns16_0 := NB305_313.out
  have hns16_1 := NB306_313.out
  have hms16_0 := NB313_305.out
  have hms16_1 := NB313_306.out
  refine skip_ (w1 := ?_) (by rfl) rfl ?_ ?_
  rotate_left
  · go_simp
    rfl
  refine hK.out _ _ ⟨((cell_far (p := ⟨gb313, _, none⟩) NB305_313.out _).trans (((cell_far (p := ⟨gb313, _, none⟩) NB305_313.out _).trans (((cell_far (p := ⟨gb313, _, none⟩) NB305_313.out _).trans (((cell_far (p := ⟨gb313, _, none⟩) NB305_313.out _).trans (hHeld.1)))))))), ((cell_far (p := ⟨gb313, _, none⟩) NB305_313.out _).trans (((cell_far (p := ⟨gb313, _, none⟩) NB305_313.out _).trans (((cell_far (p := ⟨gb313, _, none⟩) NB305_313.out _).trans (((cell_far (p := ⟨gb313, _, none⟩) NB305_313.out _).trans (hHeld.2.1)))))))), ((cell_far (p := ⟨gb313, _, none⟩) NB305_313.out _).trans (((cell_far (p := ⟨gb313, _, none⟩) NB305_313.out _).trans (((cell_far (p := ⟨gb313, _, none⟩) NB305_313.out _).trans (((cell_far (p := ⟨gb313, _, none⟩) NB305_313.out _).trans (hHeld.2.2.1)))))))), ((cell_far (p := ⟨gb313, _, none⟩) NB305_313.out _).trans (((cell_far (p := ⟨gb313, _, none⟩) NB305_313.out _).trans (((cell_far (p := ⟨gb313, _, none⟩) NB305_313.out _).trans (((cell_far (p := ⟨gb313, _, none⟩) NB305_313.out _).trans (hHeld.2.2.2))))))))⟩ (fun hHeld => ?_)
  clear hK K
  refine done_ (done_of HT_.out (by kernel_rfl)) ?_
  try go_wp2
  go_loopg [4] k (fun kq v4 w' => ∃ (x4_1 : Int) (x314003_1 : List (S52)) (u314003 : Value), v4 = .int .i64 x4_1 ∧ Aside0 (fettleref02_CopyFunc.l0 kq x4_1 a0_0 a0_1 l0_2 l0_3 a0_0 a0_1 y310 x314003_1 = some (r1, r2, r3, r4)) ∧ Aside0 (kq ≤ k) ∧ Aside0 (Kd.R (Kd.int .i64) 3 w' w.heap.size (fun _ => True) (.slice Ao12 y310.length co12) y310) ∧ Aside0 (Kd.R k52 52 w' w.heap.size (fun k_ => some k_ ≠ ((.slice Ao12 y310.length co12) : Value).ownBlock) u314003 x314003_1) ∧ Aside0 (w'.heap[gb305]? = some (.cells #[.int .i64 a0_0, .int .i64 a0_1, (.slice A0_2 l0_2.length c0_2), (.slice A0_3 l0_3.length c0_3)] 25 (0, 0))) ∧ Aside0 (w'.heap[gb306]? = some (.cells #[.int .i64 0, .int .i64 0, (.slice none 0 0), (.slice none 0 0)] 25 (0, 0))) ∧ Aside0 (w'.heap[gb313]? = some (.cells #[.int .i64 a0_0, .int .i64 a0_1, (.slice Ao12 y310.length co12), u314003] 25 (0, 0))) ∧ Aside0 (Below w.heap.size w w'))
  case atStart => exact ⟨(0), (([] : List (S52))), (.slice none 0 0), (by first | rfl | (simp; done) | (simp [*]; done)), H', ⟨Nat.le_refl _⟩, ⟨by (with_reducible repeat (first | apply R_alloc | apply R_drewN | apply R_drew)); exact R_mono (Kd.R_far (p := ⟨gb313, 3, none⟩) (Kd.R_far (p := ⟨gb313, 2, none⟩) (Kd.R_far (p := ⟨gb313, 1, none⟩) (Kd.R_far (p := ⟨gb313, 0, none⟩) (Kd.R_types HO312.out BK313.out (by decide)) (fun _ hk => hk.2) (.int .i64 a0_0)) (fun _ hk => hk.2) (.int .i64 a0_1)) (fun _ hk => hk.2) (.slice Ao12 y310.length co12)) (fun _ hk => hk.2) (.slice none 0 0)) (fun _ hk => trivial)⟩, ⟨by first | exact Kd.R_nil _ _ _ _ _ | exact Kd.N_nil _ _ _ _ _ | exact Kd.V_nil _ _ _ _ _ | exact Kd.Q_nil _ _ _ _ _ | exact Kd.S_nil _ _ _ _ _⟩, ⟨by (with_reducible repeat (first | refine blk_drewN ?_ _ | refine blk_drew ?_ | refine blk_alloc ?_ _)); refine blk_far ?_ NB305_313.out _; (with_reducible repeat (first | refine blk_drewN ?_ _ | refine blk_drew ?_ | refine blk_alloc ?_ _)); refine blk_far ?_ NB305_313.out _; (with_reducible repeat (first | refine blk_drewN ?_ _ | refine blk_drew ?_ | refine blk_alloc ?_ _)); refine blk_far ?_ NB305_313.out _; (with_reducible repeat (first | refine blk_drewN ?_ _ | refine blk_drew ?_ | refine blk_alloc ?_ _)); refine blk_far ?_ NB305_313.out _; (with_reducible repeat (first | refine blk_drewN ?_ _ | refine blk_drew ?_ | refine blk_alloc ?_ _)); exact BK305.out⟩, ⟨by (with_reducible repeat (first | refine blk_drewN ?_ _ | refine blk_drew ?_ | refine blk_alloc ?_ _)); refine blk_far ?_ NB306_313.out _; (with_reducible repeat (first | refine blk_drewN ?_ _ | refine blk_drew ?_ | refine blk_alloc ?_ _)); refine blk_far ?_ NB306_313.out _; (with_reducible repeat (first | refine blk_drewN ?_ _ | refine blk_drew ?_ | refine blk_alloc ?_ _)); refine blk_far ?_ NB306_313.out _; (with_reducible repeat (first | refine blk_drewN ?_ _ | refine blk_drew ?_ | refine blk_alloc ?_ _)); refine blk_far ?_ NB306_313.out _; (with_reducible repeat (first | refine blk_drewN ?_ _ | refine blk_drew ?_ | refine blk_alloc ?_ _)); exact BK306.out⟩, ⟨by (with_reducible repeat (first | refine blk_drewN ?_ _ | refine blk_drew ?_ | refine blk_alloc ?_ _)); refine blk_put (cs := #[.int .i64 a0_0, .int .i64 a0_1, .slice Ao12 y310.length co12, .slice none 0 0]) ?_ 3 _ rfl; (with_reducible repeat (first | refine blk_drewN ?_ _ | refine blk_drew ?_ | refine blk_alloc ?_ _)); refine blk_put (cs := #[.int .i64 a0_0, .int .i64 a0_1, .slice none 0 0, .slice none 0 0]) ?_ 2 _ rfl; (with_reducible repeat (first | refine blk_drewN ?_ _ | refine blk_drew ?_ | refine blk_alloc ?_ _)); refine blk_put (cs := #[.int .i64 a0_0, .int .i64 0, .slice none 0 0, .slice none 0 0]) ?_ 1 _ rfl; (with_reducible repeat (first | refine blk_drewN ?_ _ | refine blk_drew ?_ | refine blk_alloc ?_ _)); refine blk_put (cs := #[.int .i64 0, .int .i64 0, .slice none 0 0, .slice none 0 0]) ?_ 0 _ rfl; (with_reducible repeat (first | refine blk_drewN ?_ _ | refine blk_drew ?_ | refine blk_alloc ?_ _)); exact BK313.out⟩, ⟨by repeat (first | (with_reducible first | exact HB.out | apply below_alloc | apply pw_below_drewN | apply below_drew1 | refine below_set ?_ GE305.out | refine below_set ?_ GE306.out | refine below_set ?_ GE313.out) | exact HB.out)⟩⟩
  clear H'
  try clear c2
  try clear p2
  obtain ⟨x4_1, x314003_1, u314003, rfl, HA, HK1, HO_314002, HO_314003, BK305, BK306, BK313, HB⟩ := hrel
  rcases gk with _ | k1
  · exact absurd HA.out (by simp [fettleref02_CopyFunc.l0])
  have H := HA.out
  clear HA
  simp only [fettleref02_CopyFunc.l0] at H
  by_cases c17 : x4_1 < (l0_3.length : Int)
  · rw [if_pos c17] at H
    have c17b0 : decide (x4_1 < (l0_3.length : Int)) = true := decide_eq_true c17
    clear c17
    by_cases c18 : 0 ≤ x4_1
    rotate_left
    · rw [if_neg c18] at H
      exact absurd H (by simp)
    rw [if_pos c18] at H
    have c18b0 : decide (0 ≤ x4_1) = true := decide_eq_true c18
    clear c18
    obtain ⟨y316, hy316⟩ : ∃ y_ : List Int, y_ = (([] : List Int)) := ⟨_, rfl⟩
    replace H : (if y316.length + ((rd_T52 l0_3 x4_1).f2.f2).length < 17592186044416 then (fettleref02_CopyFunc.l1 k1 x4_1 0 a0_0 a0_1 l0_2 l0_3 a0_0 a0_1 y310 x314003_1 ((rd_T52 l0_3 x4_1).f0) ((rd_T52 l0_3 x4_1).f1) ((rd_T52 l0_3 x4_1).f2.f0) ((rd_T52 l0_3 x4_1).f2.f1) ((rd_T52 l0_3 x4_1).f2.f2) ([] : List (S62)) ((rd_T52 l0_3 x4_1).f2.f0) ((rd_T52 l0_3 x4_1).f2.f1) (y316 ++ ((rd_T52 l0_3 x4_1).f2.f2))) else (none)) = some (r1, r2, r3, r4) := by first | (rw [hy316]; with_reducible exact H) | (have H2_ := (Option.bind_some _ _).symm.trans H; rw [hy316]; with_reducible exact H2_) | exact H
    have Ny316 := Aside0.mk hy316
    clear hy316
    by_cases c19 : y316.length + ((rd_T52 l0_3 x4_1).f2.f2).length < 17592186044416
    rotate_left
    · rw [if_neg c19] at H
      exact absurd H (by simp)
    rw [if_pos c19] at H
    have LMc19 := Aside0.mk c19
    clear c19
    obtain ⟨y319, hy319⟩ : ∃ y_ : List Int, y_ = (y316 ++ ((rd_T52 l0_3 x4_1).f2.f2)) := ⟨_, rfl⟩
    replace H : (fettleref02_CopyFunc.l1 k1 x4_1 0 a0_0 a0_1 l0_2 l0_3 a0_0 a0_1 y310 x314003_1 ((rd_T52 l0_3 x4_1).f0) ((rd_T52 l0_3 x4_1).f1) ((rd_T52 l0_3 x4_1).f2.f0) ((rd_T52 l0_3 x4_1).f2.f1) ((rd_T52 l0_3 x4_1).f2.f2) ([] : List (S62)) ((rd_T52 l0_3 x4_1).f2.f0) ((rd_T52 l0_3 x4_1).f2.f1) y319) = some (r1, r2, r3, r4) := by first | (rw [hy319]; with_reducible exact H) | (have H2_ := (Option.bind_some _ _).symm.trans H; rw [hy319]; with_reducible exact H2_) | exact H
    have Ny319 := Aside0.mk hy319
    clear hy319
    have H' := Aside0.mk H
    clear H
    have hnb20 := NB305_306.out
    have hnc20 := NB306_305.out
    have hnb21 := NB305_313.out
    have hnc21 := NB313_305.out
    have hcz22_0 : wr.cell? ⟨gb305, 0, none⟩ = some (.int .i64 a0_0) := (blk_cell BK305.out 0).trans rfl
    have hcz22_1 : wr.cell? ⟨gb305, 1, none⟩ = some (.int .i64 a0_1) := (blk_cell BK305.out 1).trans rfl
    have hcz22_2 : wr.cell? ⟨gb305, 2, none⟩ = some (.slice A0_2 l0_2.length c0_2) := (blk_cell BK305.out 2).trans rfl
    have hcz22_3 : wr.cell? ⟨gb305, 3, none⟩ = some (.slice A0_3 l0_3.length c0_3) := (blk_cell BK305.out 3).trans rfl
    have hfz22_0 := blk_frozen BK305.out 0
    have hfz22_1 := blk_frozen BK305.out 1
    have hfz22_2 := blk_frozen BK305.out 2
    have hfz22_3 := blk_frozen BK305.out 3
    have p314 : 0 ≤ (x4_1 : Int) := of_decide_eq_true (by with_reducible assumption)
    have q314 : x4_1 < (l0_3.length : Int) := of_decide_eq_true (by with_reducible assumption)
    obtain ⟨ad314, A314_0, c314_0, A314_1, c314_1, A314_4, c314_4, e314, hx314_0, hx314_1, hx314_2, hx314_3, hx314_4, hl314_0, hi314_0, hl314_1, hi314_1, hl314_4, hi314_4⟩ := at_T52 HR0_3.out x4_1 p314 q314
    cases e314
    replace hx314_0 := (HB.out.cell (World.block_lt_of_cell? w _ hx314_0)).trans hx314_0
    replace hx314_1 := (HB.out.cell (World.block_lt_of_cell? w _ hx314_1)).trans hx314_1
    replace hx314_2 := (HB.out.cell (World.block_lt_of_cell? w _ hx314_2)).trans hx314_2
    replace hx314_3 := (HB.out.cell (World.block_lt_of_cell? w _ hx314_3)).trans hx314_3
    replace hx314_4 := (HB.out.cell (World.block_lt_of_cell? w _ hx314_4)).trans hx314_4
    have HR314_0 := Aside0.mk hi314_0
    have HC314_0 := Aside0.mk hl314_0
    clear hi314_0 hl314_0
    have HR314_1 := Aside0.mk hi314_1
    have HC314_1 := Aside0.mk hl314_1
    clear hi314_1 hl314_1
    have HR314_4 := Aside0.mk hi314_4
    have HC314_4 := Aside0.mk hl314_4
    clear hi314_4 hl314_4
    replace p314 := eq_true p314
    replace q314 := eq_true q314
    try go_wp2_with (first | ((with_reducible refine gate_dst (N := 5) rfl ?_); refine box_event ?hg (N := 5) ?hd (cs := #[.slice none 0 0, .slice none 0 0, .int .i64 0, .int .i64 0, .slice none 0 0]) (t := 52) ?hr ?_; (case hd => rfl); (case hg => rfl); (case hr => first | (go_simp; done) | (go_simp; rfl)); intro gb315 hg w23 hbox hb; have n0_ := Aside0.mk (Kd.R_below (by (with_reducible repeat (first | apply R_alloc | apply R_drewN | apply R_drew)); exact HO_314002.out) hb); have n1_ := Aside0.mk (Kd.R_below (Kd.R_elderB (by (with_reducible repeat (first | apply R_alloc | apply R_drewN | apply R_drew)); exact HO_314003.out) gb315 (Nat.le_of_eq hg.symm)) hb); have n2_ := Aside0.mk (blk_below (g := gb305) (o := .cells #[.int .i64 a0_0, .int .i64 a0_1, .slice A0_2 l0_2.length c0_2, .slice (some ad314) l0_3.length c0_3] 25 (0, 0)) (by (with_reducible repeat (first | refine blk_drewN ?_ _ | refine blk_drew ?_ | refine blk_alloc ?_ _)); exact BK305.out) hb); have n3_ := Aside0.mk (blk_below (g := gb306) (o := .cells #[.int .i64 0, .int .i64 0, .slice none 0 0, .slice none 0 0] 25 (0, 0)) (by (with_reducible repeat (first | refine blk_drewN ?_ _ | refine blk_drew ?_ | refine blk_alloc ?_ _)); exact BK306.out) hb); have n4_ := Aside0.mk (blk_below (g := gb313) (o := .cells #[.int .i64 a0_0, .int .i64 a0_1, .slice Ao12 y310.length co12, u314003] 25 (0, 0)) (by (with_reducible repeat (first | refine blk_drewN ?_ _ | refine blk_drew ?_ | refine blk_alloc ?_ _)); exact BK313.out) hb); have n5_ := Aside0.mk (below_step (by repeat with_reducible first | exact HB.out | apply below_alloc | apply pw_below_drewN | apply below_drew1 | refine below_set ?_ GE305.out | refine below_set ?_ GE306.out | refine below_set ?_ GE313.out) hb); have n6_ := Aside0.mk (hbox); have n7_ := Aside0.mk ((by rw [hg]; exact (below_size (by repeat with_reducible first | exact HB.out | apply below_alloc | apply pw_below_drewN | apply below_drew1 | refine below_set ?_ GE305.out | refine below_set ?_ GE306.out | refine below_set ?_ GE313.out)) : w.heap.size ≤ gb315)); have n8_ := Aside0.mk ((by rw [hg]; exact (below_size (by repeat with_reducible first | exact HB.out | apply below_alloc | apply pw_below_drewN | apply below_drew1 | refine below_set ?_ GE305.out | refine below_set ?_ GE306.out | refine below_set ?_ GE313.out)) : w.heap.size ≤ gb315)); have n9_ := Aside0.mk ((by rw [hg]; exact Nat.ne_of_lt (blk_lt (g := gb305) (o := .cells #[.int .i64 a0_0, .int .i64 a0_1, .slice A0_2 l0_2.length c0_2, .slice (some ad314) l0_3.length c0_3] 25 (0, 0)) (by (with_reducible repeat (first | refine blk_drewN ?_ _ | refine blk_drew ?_ | refine blk_alloc ?_ _)); exact BK305.out)) : gb305 ≠ gb315)); have n10_ := Aside0.mk ((by rw [hg]; exact Nat.ne_of_gt (blk_lt (g := gb305) (o := .cells #[.int .i64 a0_0, .int .i64 a0_1, .slice A0_2 l0_2.length c0_2, .slice (some ad314) l0_3.length c0_3] 25 (0, 0)) (by (with_reducible repeat (first | refine blk_drewN ?_ _ | refine blk_drew ?_ | refine blk_alloc ?_ _)); exact BK305.out)) : gb315 ≠ gb305)); have n11_ := Aside0.mk ((by rw [hg]; exact Nat.ne_of_lt (blk_lt (g := gb306) (o := .cells #[.int .i64 0, .int .i64 0, .slice none 0 0, .slice none 0 0] 25 (0, 0)) (by (with_reducible repeat (first | refine blk_drewN ?_ _ | refine blk_drew ?_ | refine blk_alloc ?_ _)); exact BK306.out)) : gb306 ≠ gb315)); have n12_ := Aside0.mk ((by rw [hg]; exact Nat.ne_of_gt (blk_lt (g := gb306) (o := .cells #[.int .i64 0, .int .i64 0, .slice none 0 0, .slice none 0 0] 25 (0, 0)) (by (with_reducible repeat (first | refine blk_drewN ?_ _ | refine blk_drew ?_ | refine blk_alloc ?_ _)); exact BK306.out)) : gb315 ≠ gb306)); have n13_ := Aside0.mk ((by rw [hg]; exact Nat.ne_of_lt (blk_lt (g := gb313) (o := .cells #[.int .i64 a0_0, .int .i64 a0_1, .slice Ao12 y310.length co12, u314003] 25 (0, 0)) (by (with_reducible repeat (first | refine blk_drewN ?_ _ | refine blk_drew ?_ | refine blk_alloc ?_ _)); exact BK313.out)) : gb313 ≠ gb315)); have n14_ := Aside0.mk ((by rw [hg]; exact Nat.ne_of_gt (blk_lt (g := gb313) (o := .cells #[.int .i64 a0_0, .int .i64 a0_1, .slice Ao12 y310.length co12, u314003] 25 (0, 0)) (by (with_reducible repeat (first | refine blk_drewN ?_ _ | refine blk_drew ?_ | refine blk_alloc ?_ _)); exact BK313.out)) : gb315 ≠ gb313)); clear HO_314002; clear HO_314003; clear BK305; clear BK306; clear BK313; clear HB; have HO_314002 := n0_; have HO_314003 := n1_; have BK305 := n2_; have BK306 := n3_; have BK313 := n4_; have HB := n5_; have BK315 := n6_; have GW315 := n7_; have GE315 := n8_; have NB305_315 := n9_; have NB315_305 := n10_; have NB306_315 := n11_; have NB315_306 := n12_; have NB313_315 := n13_; have NB315_313 := n14_; clear n0_ n1_ n2_ n3_ n4_ n5_ n6_ n7_ n8_ n9_ n10_ n11_ n12_ n13_ n14_; clear hb hbox hg; have hnb24 := NB315_305.out; have hnc24 := NB305_315.out; have hnb25 := NB315_306.out; have hnc25 := NB306_315.out; have hnb26 := NB315_313.out; have hnc26 := NB313_315.out; have hcz27_0 : w23.cell? ⟨gb315, 0, none⟩ = some (.slice none 0 0) := (blk_cell BK315.out 0).trans rfl; have hcz27_1 : w23.cell? ⟨gb315, 1, none⟩ = some (.slice none 0 0) := (blk_cell BK315.out 1).trans rfl; have hcz27_2 : w23.cell? ⟨gb315, 2, none⟩ = some (.int .i64 0) := (blk_cell BK315.out 2).trans rfl; have hcz27_3 : w23.cell? ⟨gb315, 3, none⟩ = some (.int .i64 0) := (blk_cell BK315.out 3).trans rfl; have hcz27_4 : w23.cell? ⟨gb315, 4, none⟩ = some (.slice none 0 0) := (blk_cell BK315.out 4).trans rfl; have hfz27_0 := blk_frozen BK315.out 0; have hfz27_1 := blk_frozen BK315.out 1; have hfz27_2 := blk_frozen BK315.out 2; have hfz27_3 := blk_frozen BK315.out 3; have hfz27_4 := blk_frozen BK315.out 4))
    have n0_ : Aside0 (Kd.R (Kd.int .i64) 3 (((((w23.setCell ⟨gb315, 0, none⟩ (.slice A314_0 ((rd_T52 l0_3 x4_1).f0).length c314_0)).setCell ⟨gb315, 1, none⟩ (.slice A314_1 ((rd_T52 l0_3 x4_1).f1).length c314_1)).setCell ⟨gb315, 2, none⟩ (.int .i64 ((rd_T52 l0_3 x4_1).f2.f0))).setCell ⟨gb315, 3, none⟩ (.int .i64 ((rd_T52 l0_3 x4_1).f2.f1))).setCell ⟨gb315, 4, none⟩ (.slice A314_4 ((rd_T52 l0_3 x4_1).f2.f2).length c314_4)) w.heap.size (fun _ => True) (.slice Ao12 y310.length co12) y310) := ⟨by (with_reducible repeat (first | apply R_alloc | apply R_drewN | apply R_drew)); exact R_mono (Kd.R_far (p := ⟨gb315, 4, none⟩) (Kd.R_far (p := ⟨gb315, 3, none⟩) (Kd.R_far (p := ⟨gb315, 2, none⟩) (Kd.R_far (p := ⟨gb315, 1, none⟩) (Kd.R_far (p := ⟨gb315, 0, none⟩) (Kd.R_types HO_314002.out BK315.out (by decide)) (fun _ hk => hk.2) (.slice A314_0 ((rd_T52 l0_3 x4_1).f0).length c314_0)) (fun _ hk => hk.2) (.slice A314_1 ((rd_T52 l0_3 x4_1).f1).length c314_1)) (fun _ hk => hk.2) (.int .i64 ((rd_T52 l0_3 x4_1).f2.f0))) (fun _ hk => hk.2) (.int .i64 ((rd_T52 l0_3 x4_1).f2.f1))) (fun _ hk => hk.2) (.slice A314_4 ((rd_T52 l0_3 x4_1).f2.f2).length c314_4)) (fun _ hk => trivial)⟩
    have n1_ : Aside0 (Kd.R k52 52 (((((w23.setCell ⟨gb315, 0, none⟩ (.slice A314_0 ((rd_T52 l0_3 x4_1).f0).length c314_0)).setCell ⟨gb315, 1, none⟩ (.slice A314_1 ((rd_T52 l0_3 x4_1).f1).length c314_1)).setCell ⟨gb315, 2, none⟩ (.int .i64 ((rd_T52 l0_3 x4_1).f2.f0))).setCell ⟨gb315, 3, none⟩ (.int .i64 ((rd_T52 l0_3 x4_1).f2.f1))).setCell ⟨gb315, 4, none⟩ (.slice A314_4 ((rd_T52 l0_3 x4_1).f2.f2).length c314_4)) w.heap.size (fun k_ => some k_ ≠ (.slice Ao12 y310.length co12 : Value).ownBlock ∧ k_ ≠ gb315) u314003 x314003_1) := ⟨by (with_reducible repeat (first | apply R_alloc | apply R_drewN | apply R_drew)); exact R_mono (Kd.R_far (p := ⟨gb315, 4, none⟩) (Kd.R_far (p := ⟨gb315, 3, none⟩) (Kd.R_far (p := ⟨gb315, 2, none⟩) (Kd.R_far (p := ⟨gb315, 1, none⟩) (Kd.R_far (p := ⟨gb315, 0, none⟩) (R_mono HO_314003.out (fun k_ hk => (⟨hk, hk.2⟩ : _ ∧ k_ ≠ gb315))) (fun _ hk => hk.2) (.slice A314_0 ((rd_T52 l0_3 x4_1).f0).length c314_0)) (fun _ hk => hk.2) (.slice A314_1 ((rd_T52 l0_3 x4_1).f1).length c314_1)) (fun _ hk => hk.2) (.int .i64 ((rd_T52 l0_3 x4_1).f2.f0))) (fun _ hk => hk.2) (.int .i64 ((rd_T52 l0_3 x4_1).f2.f1))) (fun _ hk => hk.2) (.slice A314_4 ((rd_T52 l0_3 x4_1).f2.f2).length c314_4)) (fun _ hk => ⟨hk.1.1, hk.1.2⟩)⟩
    have n2_ : Aside0 ((((((w23.setCell ⟨gb315, 0, none⟩ (.slice A314_0 ((rd_T52 l0_3 x4_1).f0).length c314_0)).setCell ⟨gb315, 1, none⟩ (.slice A314_1 ((rd_T52 l0_3 x4_1).f1).length c314_1)).setCell ⟨gb315, 2, none⟩ (.int .i64 ((rd_T52 l0_3 x4_1).f2.f0))).setCell ⟨gb315, 3, none⟩ (.int .i64 ((rd_T52 l0_3 x4_1).f2.f1))).setCell ⟨gb315, 4, none⟩ (.slice A314_4 ((rd_T52 l0_3 x4_1).f2.f2).length c314_4)).heap[gb305]? = some (.cells #[.int .i64 a0_0, .int .i64 a0_1, .slice A0_2 l0_2.length c0_2, .slice (some ad314) l0_3.length c0_3] 25 (0, 0))) := ⟨by (with_reducible repeat (first | refine blk_drewN ?_ _ | refine blk_drew ?_ | refine blk_alloc ?_ _)); refine blk_far ?_ NB305_315.out _; (with_reducible repeat (first | refine blk_drewN ?_ _ | refine blk_drew ?_ | refine blk_alloc ?_ _)); refine blk_far ?_ NB305_315.out _; (with_reducible repeat (first | refine blk_drewN ?_ _ | refine blk_drew ?_ | refine blk_alloc ?_ _)); refine blk_far ?_ NB305_315.out _; (with_reducible repeat (first | refine blk_drewN ?_ _ | refine blk_drew ?_ | refine blk_alloc ?_ _)); refine blk_far ?_ NB305_315.out _; (with_reducible repeat (first | refine blk_drewN ?_ _ | refine blk_drew ?_ | refine blk_alloc ?_ _)); refine blk_far ?_ NB305_315.out _; (with_reducible repeat (first | refine blk_drewN ?_ _ | refine blk_drew ?_ | refine blk_alloc ?_ _)); exact BK305.out⟩
    have n3_ : Aside0 ((((((w23.setCell ⟨gb315, 0, none⟩ (.slice A314_0 ((rd_T52 l0_3 x4_1).f0).length c314_0)).setCell ⟨gb315, 1, none⟩ (.slice A314_1 ((rd_T52 l0_3 x4_1).f1).length c314_1)).setCell ⟨gb315, 2, none⟩ (.int .i64 ((rd_T52 l0_3 x4_1).f2.f0))).setCell ⟨gb315, 3, none⟩ (.int .i64 ((rd_T52 l0_3 x4_1).f2.f1))).setCell ⟨gb315, 4, none⟩ (.slice A314_4 ((rd_T52 l0_3 x4_1).f2.f2).length c314_4)).heap[gb306]? = some (.cells #[.int .i64 0, .int .i64 0, .slice none 0 0, .slice none 0 0] 25 (0, 0))) := ⟨by (with_reducible repeat (first | refine blk_drewN ?_ _ | refine blk_drew ?_ | refine blk_alloc ?_ _)); refine blk_far ?_ NB306_315.out _; (with_reducible repeat (first | refine blk_drewN ?_ _ | refine blk_drew ?_ | refine blk_alloc ?_ _)); refine blk_far ?_ NB306_315.out _; (with_reducible repeat (first | refine blk_drewN ?_ _ | refine blk_drew ?_ | refine blk_alloc ?_ _)); refine blk_far ?_ NB306_315.out _; (with_reducible repeat (first | refine blk_drewN ?_ _ | refine blk_drew ?_ | refine blk_alloc ?_ _)); refine blk_far ?_ NB306_315.out _; (with_reducible repeat (first | refine blk_drewN ?_ _ | refine blk_drew ?_ | refine blk_alloc ?_ _)); refine blk_far ?_ NB306_315.out _; (with_reducible repeat (first | refine blk_drewN ?_ _ | refine blk_drew ?_ | refine blk_alloc ?_ _)); exact BK306.out⟩
    have n4_ : Aside0 ((((((w23.setCell ⟨gb315, 0, none⟩ (.slice A314_0 ((rd_T52 l0_3 x4_1).f0).length c314_0)).setCell ⟨gb315, 1, none⟩ (.slice A314_1 ((rd_T52 l0_3 x4_1).f1).length c314_1)).setCell ⟨gb315, 2, none⟩ (.int .i64 ((rd_T52 l0_3 x4_1).f2.f0))).setCell ⟨gb315, 3, none⟩ (.int .i64 ((rd_T52 l0_3 x4_1).f2.f1))).setCell ⟨gb315, 4, none⟩ (.slice A314_4 ((rd_T52 l0_3 x4_1).f2.f2).length c314_4)).heap[gb313]? = some (.cells #[.int .i64 a0_0, .int .i64 a0_1, .slice Ao12 y310.length co12, u314003] 25 (0, 0))) := ⟨by (with_reducible repeat (first | refine blk_drewN ?_ _ | refine blk_drew ?_ | refine blk_alloc ?_ _)); refine blk_far ?_ NB313_315.out _; (with_reducible repeat (first | refine blk_drewN ?_ _ | refine blk_drew ?_ | refine blk_alloc ?_ _)); refine blk_far ?_ NB313_315.out _; (with_reducible repeat (first | refine blk_drewN ?_ _ | refine blk_drew ?_ | refine blk_alloc ?_ _)); refine blk_far ?_ NB313_315.out _; (with_reducible repeat (first | refine blk_drewN ?_ _ | refine blk_drew ?_ | refine blk_alloc ?_ _)); refine blk_far ?_ NB313_315.out _; (with_reducible repeat (first | refine blk_drewN ?_ _ | refine blk_drew ?_ | refine blk_alloc ?_ _)); refine blk_far ?_ NB313_315.out _; (with_reducible repeat (first | refine blk_drewN ?_ _ | refine blk_drew ?_ | refine blk_alloc ?_ _)); exact BK313.out⟩
    have n5_ : Aside0 ((((((w23.setCell ⟨gb315, 0, none⟩ (.slice A314_0 ((rd_T52 l0_3 x4_1).f0).length c314_0)).setCell ⟨gb315, 1, none⟩ (.slice A314_1 ((rd_T52 l0_3 x4_1).f1).length c314_1)).setCell ⟨gb315, 2, none⟩ (.int .i64 ((rd_T52 l0_3 x4_1).f2.f0))).setCell ⟨gb315, 3, none⟩ (.int .i64 ((rd_T52 l0_3 x4_1).f2.f1))).setCell ⟨gb315, 4, none⟩ (.slice A314_4 ((rd_T52 l0_3 x4_1).f2.f2).length c314_4)).heap[gb315]? = some (.cells #[.slice A314_0 ((rd_T52 l0_3 x4_1).f0).length c314_0, .slice A314_1 ((rd_T52 l0_3 x4_1).f1).length c314_1, .int .i64 ((rd_T52 l0_3 x4_1).f2.f0), .int .i64 ((rd_T52 l0_3 x4_1).f2.f1), .slice A314_4 ((rd_T52 l0_3 x4_1).f2.f2).length c314_4] 52 (0, 0))) := ⟨by (with_reducible repeat (first | refine blk_drewN ?_ _ | refine blk_drew ?_ | refine blk_alloc ?_ _)); refine blk_put (cs := #[.slice A314_0 ((rd_T52 l0_3 x4_1).f0).length c314_0, .slice A314_1 ((rd_T52 l0_3 x4_1).f1).length c314_1, .int .i64 ((rd_T52 l0_3 x4_1).f2.f0), .int .i64 ((rd_T52 l0_3 x4_1).f2.f1), .slice none 0 0]) ?_ 4 _ rfl; (with_reducible repeat (first | refine blk_drewN ?_ _ | refine blk_drew ?_ | refine blk_alloc ?_ _)); refine blk_put (cs := #[.slice A314_0 ((rd_T52 l0_3 x4_1).f0).length c314_0, .slice A314_1 ((rd_T52 l0_3 x4_1).f1).length c314_1, .int .i64 ((rd_T52 l0_3 x4_1).f2.f0), .int .i64 0, .slice none 0 0]) ?_ 3 _ rfl; (with_reducible repeat (first | refine blk_drewN ?_ _ | refine blk_drew ?_ | refine blk_alloc ?_ _)); refine blk_put (cs := #[.slice A314_0 ((rd_T52 l0_3 x4_1).f0).length c314_0, .slice A314_1 ((rd_T52 l0_3 x4_1).f1).length c314_1, .int .i64 0, .int .i64 0, .slice none 0 0]) ?_ 2 _ rfl; (with_reducible repeat (first | refine blk_drewN ?_ _ | refine blk_drew ?_ | refine blk_alloc ?_ _)); refine blk_put (cs := #[.slice A314_0 ((rd_T52 l0_3 x4_1).f0).length c314_0, .slice none 0 0, .int .i64 0, .int .i64 0, .slice none 0 0]) ?_ 1 _ rfl; (with_reducible repeat (first | refine blk_drewN ?_ _ | refine blk_drew ?_ | refine blk_alloc ?_ _)); refine blk_put (cs := #[.slice none 0 0, .slice none 0 0, .int .i64 0, .int .i64 0, .slice none 0 0]) ?_ 0 _ rfl; (with_reducible repeat (first | refine blk_drewN ?_ _ | refine blk_drew ?_ | refine blk_alloc ?_ _)); exact BK315.out⟩
    have n6_ : Aside0 (Below w.heap.size w (((((w23.setCell ⟨gb315, 0, none⟩ (.slice A314_0 ((rd_T52 l0_3 x4_1).f0).length c314_0)).setCell ⟨gb315, 1, none⟩ (.slice A314_1 ((rd_T52 l0_3 x4_1).f1).length c314_1)).setCell ⟨gb315, 2, none⟩ (.int .i64 ((rd_T52 l0_3 x4_1).f2.f0))).setCell ⟨gb315, 3, none⟩ (.int .i64 ((rd_T52 l0_3 x4_1).f2.f1))).setCell ⟨gb315, 4, none⟩ (.slice A314_4 ((rd_T52 l0_3 x4_1).f2.f2).length c314_4))) := ⟨by repeat (first | (with_reducible first | exact HB.out | apply below_alloc | apply pw_below_drewN | apply below_drew1 | refine below_set ?_ GE305.out | refine below_set ?_ GE306.out | refine below_set ?_ GE313.out | refine below_set ?_ GE315.out) | exact HB.out)⟩
    (try clear HO_314002)
    (try clear HO_314003)
    (try clear BK305)
    (try clear BK306)
    (try clear BK313)
    (try clear BK315)
    (try clear HB)
    generalize (((((w23.setCell ⟨gb315, 0, none⟩ (.slice A314_0 ((rd_T52 l0_3 x4_1).f0).length c314_0)).setCell ⟨gb315, 1, none⟩ (.slice A314_1 ((rd_T52 l0_3 x4_1).f1).length c314_1)).setCell ⟨gb315, 2, none⟩ (.int .i64 ((rd_T52 l0_3 x4_1).f2.f0))).setCell ⟨gb315, 3, none⟩ (.int .i64 ((rd_T52 l0_3 x4_1).f2.f1))).setCell ⟨gb315, 4, none⟩ (.slice A314_4 ((rd_T52 l0_3 x4_1).f2.f2).length c314_4)) = w28 at n0_ n1_ n2_ n3_ n4_ n5_ n6_ ⊢
    have HO_314002 := n0_
    have HO_314003 := n1_
    have BK305 := n2_
    have BK306 := n3_
    have BK313 := n4_
    have BK315 := n5_
    have HB := n6_
    clear n0_ n1_ n2_ n3_ n4_ n5_ n6_
    have n0_ := Aside0.mk (R_drew HO_314002.out)
    have n1_ := Aside0.mk (R_drew HO_314003.out)
    have n2_ := Aside0.mk (blk_drew BK305.out)
    have n3_ := Aside0.mk (blk_drew BK306.out)
    have n4_ := Aside0.mk (blk_drew BK313.out)
    have n5_ := Aside0.mk (blk_drew BK315.out)
    have n6_ := Aside0.mk (below_drew1 HB.out)
    clear HO_314002
    clear HO_314003
    clear BK305
    clear BK306
    clear BK313
    clear BK315
    clear HB
    have HO_314002 := n0_
    have HO_314003 := n1_
    have BK305 := n2_
    have BK306 := n3_
    have BK313 := n4_
    have BK315 := n5_
    have HB := n6_
    clear n0_ n1_ n2_ n3_ n4_ n5_ n6_
    refine start_ (n := 15) (S := fun w' => w'.cell? ⟨gb315, 0, none⟩ = some (.slice A314_0 ((rd_T52 l0_3 x4_1).f0).length c314_0) ∧ w'.cell? ⟨gb315, 1, none⟩ = some (.slice A314_1 ((rd_T52 l0_3 x4_1).f1).length c314_1) ∧ w'.cell? ⟨gb315, 2, none⟩ = some (.int .i64 ((rd_T52 l0_3 x4_1).f2.f0)) ∧ w'.cell? ⟨gb315, 3, none⟩ = some (.int .i64 ((rd_T52 l0_3 x4_1).f2.f1)) ∧ w'.cell? ⟨gb315, 4, none⟩ = some (.slice A314_4 ((rd_T52 l0_3 x4_1).f2.f2).length c314_4)) (ds := []) #[false, false, false, false, false, false, false, false, false, false, false, false, false, false, false] (by kernel_rfl) rfl rfl ⟨(blk_cell BK315.out 0).trans rfl, (blk_cell BK315.out 1).trans rfl, (blk_cell BK315.out 2).trans rfl, (blk_cell BK315.out 3).trans rfl, (blk_cell BK315.out 4).trans rfl⟩ (fun hHeld => ?_); refine with_tabW fettleref02_CopyFunc.tab6 fettleref02_CopyFunc.bits6 (fun HT_ HW_ => ?_)
    generalize w28.drew = w29 at HO_314002 HO_314003 BK305 BK306 BK313 BK315 HB hHeld ⊢
    refine pu 0 31 (bt 15 1) HT_.out ?_
    refine pu 1 32 (bt 15 3) HT_.out ?_
    refine pu 3 34 (bt 15 11) HT_.out ?_
    refine pu 4 35 (bt 15 27) HT_.out ?_
    refine pu 7 38 (bt 15 155) HT_.out ?_
    refine pu 8 39 (bt 15 411) HT_.out ?_
    refine tk 2 33 (bt 15 415) HT_.out HW_.out hHeld rfl rfl (by rintro w' ⟨s0, s1, s2, s3, s4⟩; go_simp; with_reducible rfl) ?_
    refine tk 5 36 (bt 15 447) HT_.out HW_.out hHeld rfl rfl (by rintro w' ⟨s0, s1, s2, s3, s4⟩; go_simp; with_reducible rfl) ?_
    refine tk 9 40 (bt 15 959) HT_.out HW_.out hHeld rfl rfl (by rintro w' ⟨s0, s1, s2, s3, s4⟩; go_simp; with_reducible rfl) ?_
    refine join_ (σ := Value × Value × Nat) 1 (bt 15 16383) (fun s_ => [(37, s_.1), (41, s_.2.1), (6, .pointer (some ⟨s_.2.2, 0, none⟩)), (42, .agg #[.int .i64 ((rd_T52 l0_3 x4_1).f2.f0), .int .i64 ((rd_T52 l0_3 x4_1).f2.f1), s_.2.1]), (43, .agg #[.slice none 0 0, .slice none 0 0, .int .i64 ((rd_T52 l0_3 x4_1).f2.f0), .int .i64 ((rd_T52 l0_3 x4_1).f2.f1), s_.2.1])]) (fun s_ w' => (w'.cell? ⟨gb315, 0, none⟩ = some (.slice A314_0 ((rd_T52 l0_3 x4_1).f0).length c314_0) ∧ w'.cell? ⟨gb315, 1, none⟩ = some (.slice A314_1 ((rd_T52 l0_3 x4_1).f1).length c314_1) ∧ w'.cell? ⟨gb315, 2, none⟩ = some (.int .i64 ((rd_T52 l0_3 x4_1).f2.f0)) ∧ w'.cell? ⟨gb315, 3, none⟩ = some (.int .i64 ((rd_T52 l0_3 x4_1).f2.f1)) ∧ w'.cell? ⟨gb315, 4, none⟩ = some (.slice A314_4 ((rd_T52 l0_3 x4_1).f2.f2).length c314_4)) ∧ (Kd.R (Kd.int .i64) 3 w' w.heap.size (fun k_ => some k_ ≠ (.slice Ao12 y310.length co12 : Value).ownBlock) s_.2.1 y319) ∧ (Kd.R (Kd.int .i64) 3 w' w.heap.size (fun k_ => some k_ ≠ (s_.2.1 : Value).ownBlock) (.slice Ao12 y310.length co12) y310) ∧ (Kd.R k52 52 w' w.heap.size (fun k_ => some k_ ≠ (s_.2.1 : Value).ownBlock ∧ some k_ ≠ (.slice Ao12 y310.length co12 : Value).ownBlock ∧ k_ ≠ gb315 ∧ k_ ≠ s_.2.2) u314003 x314003_1) ∧ (w'.heap[gb305]? = some (.cells #[.int .i64 a0_0, .int .i64 a0_1, .slice A0_2 l0_2.length c0_2, .slice (some ad314) l0_3.length c0_3] 25 (0, 0))) ∧ (w'.heap[gb306]? = some (.cells #[.int .i64 0, .int .i64 0, .slice none 0 0, .slice none 0 0] 25 (0, 0))) ∧ (w'.heap[gb313]? = some (.cells #[.int .i64 a0_0, .int .i64 a0_1, .slice Ao12 y310.length co12, u314003] 25 (0, 0))) ∧ (w'.heap[gb315]? = some (.cells #[.slice A314_0 ((rd_T52 l0_3 x4_1).f0).length c314_0, .slice A314_1 ((rd_T52 l0_3 x4_1).f1).length c314_1, .int .i64 ((rd_T52 l0_3 x4_1).f2.f0), .int .i64 ((rd_T52 l0_3 x4_1).f2.f1), .slice A314_4 ((rd_T52 l0_3 x4_1).f2.f2).length c314_4] 52 (0, 0))) ∧ (w'.heap[s_.2.2]? = some (.cells #[.slice none 0 0, .slice none 0 0, .int .i64 0, .int .i64 0, .slice none 0 0] 52 (0, 0))) ∧ (w.heap.size ≤ s_.2.2) ∧ (w.heap.size ≤ s_.2.2) ∧ (gb305 ≠ s_.2.2) ∧ (s_.2.2 ≠ gb305) ∧ (gb306 ≠ s_.2.2) ∧ (s_.2.2 ≠ gb306) ∧ (gb313 ≠ s_.2.2) ∧ (s_.2.2 ≠ gb313) ∧ (gb315 ≠ s_.2.2) ∧ (s_.2.2 ≠ gb315) ∧ (Below w.heap.size w w')) ?_ ?_
    rotate_left
    · intro hCont
      refine two_ (i := 6) (j := 13) (Ni := some 37) (Nj := some 6) (bt 15 1023) (bt 15 9151) rfl rfl rfl rfl (two_of HT_.out (by kernel_rfl)) (by decide) (by decide) (fun K hK => ?_) (fun K hK => ?_)
      · skip
        refine Kd.R_lit_step (Kd.int .i64) _ 3 ?hg (N := 37) ?hd (xs := ([] : List Int)) (inner := []) (ok := fun _ => True) (okp := fun _ => True) ?hr ?hp (fun _ hk => hk) trivial (Below.refl _ _) (Nat.le_refl _) (by simp) ?_; (case hd => rfl); (case hg => rfl); (case hr => first | (go_simp; done) | (go_simp; rfl)); (case hp => exact (Reps.none _ _))
        intro v317 w30 ho31 hb hg_ hnew_
        clear hg_ hnew_
        rw [← Ny316.out] at ho31
        have n0_ := Aside0.mk (R_elder' (by (with_reducible repeat (first | apply R_alloc | apply R_drewN | apply R_drew)); exact HO_314002.out) (R_base ho31) hb)
        have n1_ := Aside0.mk (R_elder' (by (with_reducible repeat (first | apply R_alloc | apply R_drewN | apply R_drew)); exact HO_314003.out) (R_base ho31) hb)
        have n2_ := Aside0.mk (Kd.R_lower (R_new' ho31 (R_lt (by (with_reducible repeat (first | apply R_alloc | apply R_drewN | apply R_drew)); exact HO_314002.out))) (below_size (by repeat with_reducible first | exact HB.out | apply below_alloc | apply pw_below_drewN | apply below_drew1 | refine below_set ?_ GE305.out | refine below_set ?_ GE306.out | refine below_set ?_ GE313.out | refine below_set ?_ GE315.out)))
        have n3_ := Aside0.mk (blk_below (g := gb305) (o := .cells #[.int .i64 a0_0, .int .i64 a0_1, .slice A0_2 l0_2.length c0_2, .slice (some ad314) l0_3.length c0_3] 25 (0, 0)) (by (with_reducible repeat (first | refine blk_drewN ?_ _ | refine blk_drew ?_ | refine blk_alloc ?_ _)); exact BK305.out) hb)
        have n4_ := Aside0.mk (blk_below (g := gb306) (o := .cells #[.int .i64 0, .int .i64 0, .slice none 0 0, .slice none 0 0] 25 (0, 0)) (by (with_reducible repeat (first | refine blk_drewN ?_ _ | refine blk_drew ?_ | refine blk_alloc ?_ _)); exact BK306.out) hb)
        have n5_ := Aside0.mk (blk_below (g := gb313) (o := .cells #[.int .i64 a0_0, .int .i64 a0_1, .slice Ao12 y310.length co12, u314003] 25 (0, 0)) (by (with_reducible repeat (first | refine blk_drewN ?_ _ | refine blk_drew ?_ | refine blk_alloc ?_ _)); exact BK313.out) hb)
        have n6_ := Aside0.mk (blk_below (g := gb315) (o := .cells #[.slice A314_0 ((rd_T52 l0_3 x4_1).f0).length c314_0, .slice A314_1 ((rd_T52 l0_3 x4_1).f1).length c314_1, .int .i64 ((rd_T52 l0_3 x4_1).f2.f0), .int .i64 ((rd_T52 l0_3 x4_1).f2.f1), .slice A314_4 ((rd_T52 l0_3 x4_1).f2.f2).length c314_4] 52 (0, 0)) (by (with_reducible repeat (first | refine blk_drewN ?_ _ | refine blk_drew ?_ | refine blk_alloc ?_ _)); exact BK315.out) hb)
        have n7_ := Aside0.mk (below_step (by repeat with_reducible first | exact HB.out | apply below_alloc | apply pw_below_drewN | apply below_drew1 | refine below_set ?_ GE305.out | refine below_set ?_ GE306.out | refine below_set ?_ GE313.out | refine below_set ?_ GE315.out) hb)
        clear HO_314002
        clear HO_314003
        clear BK305
        clear BK306
        clear BK313
        clear BK315
        clear HB
        have HO_314002 := n0_
        have HO_314003 := n1_
        have HO318 := n2_
        have BK305 := n3_
        have BK306 := n4_
        have BK313 := n5_
        have BK315 := n6_
        have HB := n7_
        clear n0_ n1_ n2_ n3_ n4_ n5_ n6_ n7_
        clear hb ho31
        refine hK.out _ _ ⟨(blk_cell BK315.out 0).trans rfl, (blk_cell BK315.out 1).trans rfl, (blk_cell BK315.out 2).trans rfl, (blk_cell BK315.out 3).trans rfl, (blk_cell BK315.out 4).trans rfl⟩ (fun hHeld => ?_)
        clear hK K
        refine norm_ (a' := ?_) ?_ ?_
        rotate_left
        · show Act.put _ (some 37) _ = _
          simp only [Act.put, List.setIfInBounds_toArray, List.set_cons_zero, List.set_cons_succ, i64_w, i32_w]
          rfl
        refine two_ (i := 10) (j := 13) (Ni := some 41) (Nj := some 6) (bt 15 2047) (bt 15 9215) rfl rfl rfl rfl (two_of HT_.out (by kernel_rfl)) (by decide) (by decide) (fun K hK => ?_) (fun K hK => ?_)
        · skip
          refine Kd.R_append_rows_step (Kd.int .i64) (w0 := w) w.heap.size (by rfl) (.tmp 37) (.tmp 40) 22 3 (.int .i64 0) 8 rfl Try.underlying22 info3 rfl (by decide) (by omega) v317 y316 ((rd_T52 l0_3 x4_1).f2.f2) _ _ _ (fun k_ => some k_ ≠ (.slice Ao12 y310.length co12 : Value).ownBlock) (fun _ => False) rfl rfl ?aO ?aR (fun _ _ h => h) (fun _ h => h.elim) ?aF ?aB ?aS ?aL ?_
          (case aR => repeat (first | exact (C_below HR314_4.out HB.out) | (with_reducible refine C_alloc ?_ _) | (with_reducible refine C_drewN ?_ _) | (with_reducible refine C_drew ?_)))
          (case aB => exact (by repeat with_reducible first | exact HB.out | apply below_alloc | apply pw_below_drewN | apply below_drew1 | refine below_set ?_ GE305.out | refine below_set ?_ GE306.out | refine below_set ?_ GE313.out | refine below_set ?_ GE315.out))
          (case aF => exact (fun k_ hk => Kd.fresh' (R_lt (by (with_reducible repeat (first | apply R_alloc | apply R_drewN | apply R_drew)); exact HO_314002.out)) k_ hk))
          (case aO => exact (by (with_reducible repeat (first | apply R_alloc | apply R_drewN | apply R_drew)); exact R_mono HO318.out (fun _ hk => hk.2)))
          (case aS => exact (below_size (by repeat with_reducible first | exact HB.out | apply below_alloc | apply pw_below_drewN | apply below_drew1 | refine below_set ?_ GE305.out | refine below_set ?_ GE306.out | refine below_set ?_ GE313.out | refine below_set ?_ GE315.out)))
          (case aL => have := LMc19.out; omega)
          intro v320 w32 ho hb hg hat
          rw [← Ny319.out] at ho
          have n0_ := Aside0.mk (Kd.R_after (ok := (fun _ => True)) (by (with_reducible repeat (first | apply R_alloc | apply R_drewN | apply R_drew)); exact HO_314002.out) hg hat)
          have n1_ := Aside0.mk (Kd.R_after (ok := (fun k_ => some k_ ≠ (.slice Ao12 y310.length co12 : Value).ownBlock ∧ k_ ≠ gb315)) (by (with_reducible repeat (first | apply R_alloc | apply R_drewN | apply R_drew)); exact HO_314003.out) hg hat)
          have n2_ := Aside0.mk (blk_grown (g := gb305) (o := .cells #[.int .i64 a0_0, .int .i64 a0_1, .slice A0_2 l0_2.length c0_2, .slice (some ad314) l0_3.length c0_3] 25 (0, 0)) (by (with_reducible repeat (first | refine blk_drewN ?_ _ | refine blk_drew ?_ | refine blk_alloc ?_ _)); exact BK305.out) hg (Kd.R_ne HO318.out BK305.out (by decide)))
          have n3_ := Aside0.mk (blk_grown (g := gb306) (o := .cells #[.int .i64 0, .int .i64 0, .slice none 0 0, .slice none 0 0] 25 (0, 0)) (by (with_reducible repeat (first | refine blk_drewN ?_ _ | refine blk_drew ?_ | refine blk_alloc ?_ _)); exact BK306.out) hg (Kd.R_ne HO318.out BK306.out (by decide)))
          have n4_ := Aside0.mk (blk_grown (g := gb313) (o := .cells #[.int .i64 a0_0, .int .i64 a0_1, .slice Ao12 y310.length co12, u314003] 25 (0, 0)) (by (with_reducible repeat (first | refine blk_drewN ?_ _ | refine blk_drew ?_ | refine blk_alloc ?_ _)); exact BK313.out) hg (Kd.R_ne HO318.out BK313.out (by decide)))
          have n5_ := Aside0.mk (blk_grown (g := gb315) (o := .cells #[.slice A314_0 ((rd_T52 l0_3 x4_1).f0).length c314_0, .slice A314_1 ((rd_T52 l0_3 x4_1).f1).length c314_1, .int .i64 ((rd_T52 l0_3 x4_1).f2.f0), .int .i64 ((rd_T52 l0_3 x4_1).f2.f1), .slice A314_4 ((rd_T52 l0_3 x4_1).f2.f2).length c314_4] 52 (0, 0)) (by (with_reducible repeat (first | refine blk_drewN ?_ _ | refine blk_drew ?_ | refine blk_alloc ?_ _)); exact BK315.out) hg (Kd.R_ne HO318.out BK315.out (by decide)))
          have n6_ := Aside0.mk (hb)
          have n7_ := Aside0.mk (ho)
          clear HO_314002
          clear HO_314003
          clear BK305
          clear BK306
          clear BK313
          clear BK315
          clear HB
          clear HO318
          have HO_314002 := n0_
          have HO_314003 := n1_
          have BK305 := n2_
          have BK306 := n3_
          have BK313 := n4_
          have BK315 := n5_
          have HB := n6_
          have HO321 := n7_
          clear n0_ n1_ n2_ n3_ n4_ n5_ n6_ n7_
          clear ho hb hg hat
          obtain ⟨Ao33, co33, eo33⟩ := Kd.R_slice HO321.out
          (first | subst eo33 | (injection eo33 with f1_ f2_ f3_; have f4_ := f1_.symm; have f5_ := f3_.symm; clear f1_ f2_ f3_; subst f4_; subst f5_))
          refine hK.out _ _ ⟨(blk_cell BK315.out 0).trans rfl, (blk_cell BK315.out 1).trans rfl, (blk_cell BK315.out 2).trans rfl, (blk_cell BK315.out 3).trans rfl, (blk_cell BK315.out 4).trans rfl⟩ (fun hHeld => ?_)
          clear hK K
          refine norm_ (a' := ?_) ?_ ?_
          rotate_left
          · show Act.put _ (some 41) _ = _
            simp only [Act.put, List.setIfInBounds_toArray, List.set_cons_zero, List.set_cons_succ, i64_w, i32_w]
            rfl
          refine pu 11 42 (bt 15 4095) HT_.out ?_
          refine pu 12 43 (bt 15 8191) HT_.out ?_
          refine one_ (i := 13) (N := some 6) (bt 15 16383) rfl rfl (one_of HT_.out (by kernel_rfl)) (by decide) (fun K hK => ?_)
          refine box_step ?hg (N := 6) ?hd (cs := #[.slice none 0 0, .slice none 0 0, .int .i64 0, .int .i64 0, .slice none 0 0]) (t := 52) ?hr ?_; (case hd => rfl); (case hg => rfl); (case hr => first | (go_simp; done) | (go_simp; rfl))
          intro gb322 hg w34 hbox hb
          have n0_ := Aside0.mk (Kd.R_below (by (with_reducible repeat (first | apply R_alloc | apply R_drewN | apply R_drew)); exact HO_314002.out) hb)
          have n1_ := Aside0.mk (Kd.R_below (Kd.R_elderB (by (with_reducible repeat (first | apply R_alloc | apply R_drewN | apply R_drew)); exact HO_314003.out) gb322 (Nat.le_of_eq hg.symm)) hb)
          have n2_ := Aside0.mk (Kd.R_below (by (with_reducible repeat (first | apply R_alloc | apply R_drewN | apply R_drew)); exact HO321.out) hb)
          have n3_ := Aside0.mk (blk_below (g := gb305) (o := .cells #[.int .i64 a0_0, .int .i64 a0_1, .slice A0_2 l0_2.length c0_2, .slice (some ad314) l0_3.length c0_3] 25 (0, 0)) (by (with_reducible repeat (first | refine blk_drewN ?_ _ | refine blk_drew ?_ | refine blk_alloc ?_ _)); exact BK305.out) hb)
          have n4_ := Aside0.mk (blk_below (g := gb306) (o := .cells #[.int .i64 0, .int .i64 0, .slice none 0 0, .slice none 0 0] 25 (0, 0)) (by (with_reducible repeat (first | refine blk_drewN ?_ _ | refine blk_drew ?_ | refine blk_alloc ?_ _)); exact BK306.out) hb)
          have n5_ := Aside0.mk (blk_below (g := gb313) (o := .cells #[.int .i64 a0_0, .int .i64 a0_1, .slice Ao12 y310.length co12, u314003] 25 (0, 0)) (by (with_reducible repeat (first | refine blk_drewN ?_ _ | refine blk_drew ?_ | refine blk_alloc ?_ _)); exact BK313.out) hb)
          have n6_ := Aside0.mk (blk_below (g := gb315) (o := .cells #[.slice A314_0 ((rd_T52 l0_3 x4_1).f0).length c314_0, .slice A314_1 ((rd_T52 l0_3 x4_1).f1).length c314_1, .int .i64 ((rd_T52 l0_3 x4_1).f2.f0), .int .i64 ((rd_T52 l0_3 x4_1).f2.f1), .slice A314_4 ((rd_T52 l0_3 x4_1).f2.f2).length c314_4] 52 (0, 0)) (by (with_reducible repeat (first | refine blk_drewN ?_ _ | refine blk_drew ?_ | refine blk_alloc ?_ _)); exact BK315.out) hb)
          have n7_ := Aside0.mk (below_step (by repeat with_reducible first | exact HB.out | apply below_alloc | apply pw_below_drewN | apply below_drew1 | refine below_set ?_ GE305.out | refine below_set ?_ GE306.out | refine below_set ?_ GE313.out | refine below_set ?_ GE315.out) hb)
          have n8_ := Aside0.mk (hbox)
          have n9_ := Aside0.mk ((by rw [hg]; exact (below_size (by repeat with_reducible first | exact HB.out | apply below_alloc | apply pw_below_drewN | apply below_drew1 | refine below_set ?_ GE305.out | refine below_set ?_ GE306.out | refine below_set ?_ GE313.out | refine below_set ?_ GE315.out)) : w.heap.size ≤ gb322))
          have n10_ := Aside0.mk ((by rw [hg]; exact (below_size (by repeat with_reducible first | exact HB.out | apply below_alloc | apply pw_below_drewN | apply below_drew1 | refine below_set ?_ GE305.out | refine below_set ?_ GE306.out | refine below_set ?_ GE313.out | refine below_set ?_ GE315.out)) : w.heap.size ≤ gb322))
          have n11_ := Aside0.mk ((by rw [hg]; exact Nat.ne_of_lt (blk_lt (g := gb305) (o := .cells #[.int .i64 a0_0, .int .i64 a0_1, .slice A0_2 l0_2.length c0_2, .slice (some ad314) l0_3.length c0_3] 25 (0, 0)) (by (with_reducible repeat (first | refine blk_drewN ?_ _ | refine blk_drew ?_ | refine blk_alloc ?_ _)); exact BK305.out)) : gb305 ≠ gb322))
          have n12_ := Aside0.mk ((by rw [hg]; exact Nat.ne_of_gt (blk_lt (g := gb305) (o := .cells #[.int .i64 a0_0, .int .i64 a0_1, .slice A0_2 l0_2.length c0_2, .slice (some ad314) l0_3.length c0_3] 25 (0, 0)) (by (with_reducible repeat (first | refine blk_drewN ?_ _ | refine blk_drew ?_ | refine blk_alloc ?_ _)); exact BK305.out)) : gb322 ≠ gb305))
          have n13_ := Aside0.mk ((by rw [hg]; exact Nat.ne_of_lt (blk_lt (g := gb306) (o := .cells #[.int .i64 0, .int .i64 0, .slice none 0 0, .slice none 0 0] 25 (0, 0)) (by (with_reducible repeat (first | refine blk_drewN ?_ _ | refine blk_drew ?_ | refine blk_alloc ?_ _)); exact BK306.out)) : gb306 ≠ gb322))
          have n14_ := Aside0.mk ((by rw [hg]; exact Nat.ne_of_gt (blk_lt (g := gb306) (o := .cells #[.int .i64 0, .int .i64 0, .slice none 0 0, .slice none 0 0] 25 (0, 0)) (by (with_reducible repeat (first | refine blk_drewN ?_ _ | refine blk_drew ?_ | refine blk_alloc ?_ _)); exact BK306.out)) : gb322 ≠ gb306))
          have n15_ := Aside0.mk ((by rw [hg]; exact Nat.ne_of_lt (blk_lt (g := gb313) (o := .cells #[.int .i64 a0_0, .int .i64 a0_1, .slice Ao12 y310.length co12, u314003] 25 (0, 0)) (by (with_reducible repeat (first | refine blk_drewN ?_ _ | refine blk_drew ?_ | refine blk_alloc ?_ _)); exact BK313.out)) : gb313 ≠ gb322))
          have n16_ := Aside0.mk ((by rw [hg]; exact Nat.ne_of_gt (blk_lt (g := gb313) (o := .cells #[.int .i64 a0_0, .int .i64 a0_1, .slice Ao12 y310.length co12, u314003] 25 (0, 0)) (by (with_reducible repeat (first | refine blk_drewN ?_ _ | refine blk_drew ?_ | refine blk_alloc ?_ _)); exact BK313.out)) : gb322 ≠ gb313))
          have n17_ := Aside0.mk ((by rw [hg]; exact Nat.ne_of_lt (blk_lt (g := gb315) (o := .cells #[.slice A314_0 ((rd_T52 l0_3 x4_1).f0).length c314_0, .slice A314_1 ((rd_T52 l0_3 x4_1).f1).length c314_1, .int .i64 ((rd_T52 l0_3 x4_1).f2.f0), .int .i64 ((rd_T52 l0_3 x4_1).f2.f1), .slice A314_4 ((rd_T52 l0_3 x4_1).f2.f2).length c314_4] 52 (0, 0)) (by (with_reducible repeat (first | refine blk_drewN ?_ _ | refine blk_drew ?_ | refine blk_alloc ?_ _)); exact BK315.out)) : gb315 ≠ gb322))
          have n18_ := Aside0.mk ((by rw [hg]; exact Nat.ne_of_gt (blk_lt (g := gb315) (o := .cells #[.slice A314_0 ((rd_T52 l0_3 x4_1).f0).length c314_0, .slice A314_1 ((rd_T52 l0_3 x4_1).f1).length c314_1, .int .i64 ((rd_T52 l0_3 x4_1).f2.f0), .int .i64 ((rd_T52 l0_3 x4_1).f2.f1), .slice A314_4 ((rd_T52 l0_3 x4_1).f2.f2).length c314_4] 52 (0, 0)) (by (with_reducible repeat (first | refine blk_drewN ?_ _ | refine blk_drew ?_ | refine blk_alloc ?_ _)); exact BK315.out)) : gb322 ≠ gb315))
          clear HO_314002
          clear HO_314003
          clear HO321
          clear BK305
          clear BK306
          clear BK313
          clear BK315
          clear HB
          have HO_314002 := n0_
          have HO_314003 := n1_
          have HO321 := n2_
          have BK305 := n3_
          have BK306 := n4_
          have BK313 := n5_
          have BK315 := n6_
          have HB := n7_
          have BK322 := n8_
          have GW322 := n9_
          have GE322 := n10_
          have NB305_322 := n11_
          have NB322_305 := n12_
          have NB306_322 := n13_
          have NB322_306 := n14_
          have NB313_322 := n15_
          have NB322_313 := n16_
          have NB315_322 := n17_
          have NB322_315 := n18_
          clear n0_ n1_ n2_ n3_ n4_ n5_ n6_ n7_ n8_ n9_ n10_ n11_ n12_ n13_ n14_ n15_ n16_ n17_ n18_
          clear hb hbox hg
          refine hK.out _ _ ⟨(blk_cell BK315.out 0).trans rfl, (blk_cell BK315.out 1).trans rfl, (blk_cell BK315.out 2).trans rfl, (blk_cell BK315.out 3).trans rfl, (blk_cell BK315.out 4).trans rfl⟩ (fun hHeld => ?_)
          clear hK K
          refine norm_ (a' := ?_) ?_ ?_
          rotate_left
          · show Act.put _ (some 6) _ = _
            simp only [Act.put, List.setIfInBounds_toArray, List.set_cons_zero, List.set_cons_succ, i64_w, i32_w]
            rfl
          exact norm_ (by simp only [putAll, Act.put, List.setIfInBounds_toArray, List.set_cons_zero, List.set_cons_succ]) (hCont (v317, .slice Ao33 y319.length co33, gb322) _ ⟨hHeld, (by (with_reducible repeat (first | apply R_alloc | apply R_drewN | apply R_drew)); exact HO321.out), (by (with_reducible repeat (first | apply R_alloc | apply R_drewN | apply R_drew)); exact R_mono HO_314002.out (fun _ hk => hk.2)), (by (with_reducible repeat (first | apply R_alloc | apply R_drewN | apply R_drew)); exact R_mono HO_314003.out (fun _ hk => ⟨hk.1.2, ⟨hk.1.1.1, ⟨hk.1.1.2, hk.2⟩⟩⟩)), (by (with_reducible repeat (first | refine blk_drewN ?_ _ | refine blk_drew ?_ | refine blk_alloc ?_ _)); exact BK305.out), (by (with_reducible repeat (first | refine blk_drewN ?_ _ | refine blk_drew ?_ | refine blk_alloc ?_ _)); exact BK306.out), (by (with_reducible repeat (first | refine blk_drewN ?_ _ | refine blk_drew ?_ | refine blk_alloc ?_ _)); exact BK313.out), (by (with_reducible repeat (first | refine blk_drewN ?_ _ | refine blk_drew ?_ | refine blk_alloc ?_ _)); exact BK315.out), (by (with_reducible repeat (first | refine blk_drewN ?_ _ | refine blk_drew ?_ | refine blk_alloc ?_ _)); exact BK322.out), GW322.out, GE322.out, NB305_322.out, NB322_305.out, NB306_322.out, NB322_306.out, NB313_322.out, NB322_313.out, NB315_322.out, NB322_315.out, (by repeat with_reducible first | exact HB.out | apply below_alloc | apply pw_below_drewN | apply below_drew1 | refine below_set ?_ GE305.out | refine below_set ?_ GE306.out | refine below_set ?_ GE313.out | refine below_set ?_ GE315.out | refine below_set ?_ GE322.out)⟩)
        skip
        refine box_step ?hg (N := 6) ?hd (cs := #[.slice none 0 0, .slice none 0 0, .int .i64 0, .int .i64 0, .slice none 0 0]) (t := 52) ?hr ?_; (case hd => rfl); (case hg => rfl); (case hr => first | (go_simp; done) | (go_simp; rfl))
        intro gb322 hg w32 hbox hb
        have n0_ := Aside0.mk (Kd.R_below (by (with_reducible repeat (first | apply R_alloc | apply R_drewN | apply R_drew)); exact HO_314002.out) hb)
        have n1_ := Aside0.mk (Kd.R_below (Kd.R_elderB (by (with_reducible repeat (first | apply R_alloc | apply R_drewN | apply R_drew)); exact HO_314003.out) gb322 (Nat.le_of_eq hg.symm)) hb)
        have n2_ := Aside0.mk (Kd.R_below (by (with_reducible repeat (first | apply R_alloc | apply R_drewN | apply R_drew)); exact HO318.out) hb)
        have n3_ := Aside0.mk (blk_below (g := gb305) (o := .cells #[.int .i64 a0_0, .int .i64 a0_1, .slice A0_2 l0_2.length c0_2, .slice (some ad314) l0_3.length c0_3] 25 (0, 0)) (by (with_reducible repeat (first | refine blk_drewN ?_ _ | refine blk_drew ?_ | refine blk_alloc ?_ _)); exact BK305.out) hb)
        have n4_ := Aside0.mk (blk_below (g := gb306) (o := .cells #[.int .i64 0, .int .i64 0, .slice none 0 0, .slice none 0 0] 25 (0, 0)) (by (with_reducible repeat (first | refine blk_drewN ?_ _ | refine blk_drew ?_ | refine blk_alloc ?_ _)); exact BK306.out) hb)
        have n5_ := Aside0.mk (blk_below (g := gb313) (o := .cells #[.int .i64 a0_0, .int .i64 a0_1, .slice Ao12 y310.length co12, u314003] 25 (0, 0)) (by (with_reducible repeat (first | refine blk_drewN ?_ _ | refine blk_drew ?_ | refine blk_alloc ?_ _)); exact BK313.out) hb)
        have n6_ := Aside0.mk (blk_below (g := gb315) (o := .cells #[.slice A314_0 ((rd_T52 l0_3 x4_1).f0).length c314_0, .slice A314_1 ((rd_T52 l0_3 x4_1).f1).length c314_1, .int .i64 ((rd_T52 l0_3 x4_1).f2.f0), .int .i64 ((rd_T52 l0_3 x4_1).f2.f1), .slice A314_4 ((rd_T52 l0_3 x4_1).f2.f2).length c314_4] 52 (0, 0)) (by (with_reducible repeat (first | refine blk_drewN ?_ _ | refine blk_drew ?_ | refine blk_alloc ?_ _)); exact BK315.out) hb)
        have n7_ := Aside0.mk (below_step (by repeat with_reducible first | exact HB.out | apply below_alloc | apply pw_below_drewN | apply below_drew1 | refine below_set ?_ GE305.out | refine below_set ?_ GE306.out | refine below_set ?_ GE313.out | refine below_set ?_ GE315.out) hb)
        have n8_ := Aside0.mk (hbox)
        have n9_ := Aside0.mk ((by rw [hg]; exact (below_size (by repeat with_reducible first | exact HB.out | apply below_alloc | apply pw_below_drewN | apply below_drew1 | refine below_set ?_ GE305.out | refine below_set ?_ GE306.out | refine below_set ?_ GE313.out | refine below_set ?_ GE315.out)) : w.heap.size ≤ gb322))
        have n10_ := Aside0.mk ((by rw [hg]; exact (below_size (by repeat with_reducible first | exact HB.out | apply below_alloc | apply pw_below_drewN | apply below_drew1 | refine below_set ?_ GE305.out | refine below_set ?_ GE306.out | refine below_set ?_ GE313.out | refine below_set ?_ GE315.out)) : w.heap.size ≤ gb322))
        have n11_ := Aside0.mk ((by rw [hg]; exact Nat.ne_of_lt (blk_lt (g := gb305) (o := .cells #[.int .i64 a0_0, .int .i64 a0_1, .slice A0_2 l0_2.length c0_2, .slice (some ad314) l0_3.length c0_3] 25 (0, 0)) (by (with_reducible repeat (first | refine blk_drewN ?_ _ | refine blk_drew ?_ | refine blk_alloc ?_ _)); exact BK305.out)) : gb305 ≠ gb322))
        have n12_ := Aside0.mk ((by rw [hg]; exact Nat.ne_of_gt (blk_lt (g := gb305) (o := .cells #[.int .i64 a0_0, .int .i64 a0_1, .slice A0_2 l0_2.length c0_2, .slice (some ad314) l0_3.length c0_3] 25 (0, 0)) (by (with_reducible repeat (first | refine blk_drewN ?_ _ | refine blk_drew ?_ | refine blk_alloc ?_ _)); exact BK305.out)) : gb322 ≠ gb305))
        have n13_ := Aside0.mk ((by rw [hg]; exact Nat.ne_of_lt (blk_lt (g := gb306) (o := .cells #[.int .i64 0, .int .i64 0, .slice none 0 0, .slice none 0 0] 25 (0, 0)) (by (with_reducible repeat (first | refine blk_drewN ?_ _ | refine blk_drew ?_ | refine blk_alloc ?_ _)); exact BK306.out)) : gb306 ≠ gb322))
        have n14_ := Aside0.mk ((by rw [hg]; exact Nat.ne_of_gt (blk_lt (g := gb306) (o := .cells #[.int .i64 0, .int .i64 0, .slice none 0 0, .slice none 0 0] 25 (0, 0)) (by (with_reducible repeat (first | refine blk_drewN ?_ _ | refine blk_drew ?_ | refine blk_alloc ?_ _)); exact BK306.out)) : gb322 ≠ gb306))
        have n15_ := Aside0.mk ((by rw [hg]; exact Nat.ne_of_lt (blk_lt (g := gb313) (o := .cells #[.int .i64 a0_0, .int .i64 a0_1, .slice Ao12 y310.length co12, u314003] 25 (0, 0)) (by (with_reducible repeat (first | refine blk_drewN ?_ _ | refine blk_drew ?_ | refine blk_alloc ?_ _)); exact BK313.out)) : gb313 ≠ gb322))
        have n16_ := Aside0.mk ((by rw [hg]; exact Nat.ne_of_gt (blk_lt (g := gb313) (o := .cells #[.int .i64 a0_0, .int .i64 a0_1, .slice Ao12 y310.length co12, u314003] 25 (0, 0)) (by (with_reducible repeat (first | refine blk_drewN ?_ _ | refine blk_drew ?_ | refine blk_alloc ?_ _)); exact BK313.out)) : gb322 ≠ gb313))
        have n17_ := Aside0.mk ((by rw [hg]; exact Nat.ne_of_lt (blk_lt (g := gb315) (o := .cells #[.slice A314_0 ((rd_T52 l0_3 x4_1).f0).length c314_0, .slice A314_1 ((rd_T52 l0_3 x4_1).f1).length c314_1, .int .i64 ((rd_T52 l0_3 x4_1).f2.f0), .int .i64 ((rd_T52 l0_3 x4_1).f2.f1), .slice A314_4 ((rd_T52 l0_3 x4_1).f2.f2).length c314_4] 52 (0, 0)) (by (with_reducible repeat (first | refine blk_drewN ?_ _ | refine blk_drew ?_ | refine blk_alloc ?_ _)); exact BK315.out)) : gb315 ≠ gb322))
        have n18_ := Aside0.mk ((by rw [hg]; exact Nat.ne_of_gt (blk_lt (g := gb315) (o := .cells #[.slice A314_0 ((rd_T52 l0_3 x4_1).f0).length c314_0, .slice A314_1 ((rd_T52 l0_3 x4_1).f1).length c314_1, .int .i64 ((rd_T52 l0_3 x4_1).f2.f0), .int .i64 ((rd_T52 l0_3 x4_1).f2.f1), .slice A314_4 ((rd_T52 l0_3 x4_1).f2.f2).length c314_4] 52 (0, 0)) (by (with_reducible repeat (first | refine blk_drewN ?_ _ | refine blk_drew ?_ | refine blk_alloc ?_ _)); exact BK315.out)) : gb322 ≠ gb315))
        clear HO_314002
        clear HO_314003
        clear HO318
        clear BK305
        clear BK306
        clear BK313
        clear BK315
        clear HB
        have HO_314002 := n0_
        have HO_314003 := n1_
        have HO318 := n2_
        have BK305 := n3_
        have BK306 := n4_
        have BK313 := n5_
        have BK315 := n6_
        have HB := n7_
        have BK322 := n8_
        have GW322 := n9_
        have GE322 := n10_
        have NB305_322 := n11_
        have NB322_305 := n12_
        have NB306_322 := n13_
        have NB322_306 := n14_
        have NB313_322 := n15_
        have NB322_313 := n16_
        have NB315_322 := n17_
        have NB322_315 := n18_
        clear n0_ n1_ n2_ n3_ n4_ n5_ n6_ n7_ n8_ n9_ n10_ n11_ n12_ n13_ n14_ n15_ n16_ n17_ n18_
        clear hb hbox hg
        refine hK.out _ _ ⟨(blk_cell BK315.out 0).trans rfl, (blk_cell BK315.out 1).trans rfl, (blk_cell BK315.out 2).trans rfl, (blk_cell BK315.out 3).trans rfl, (blk_cell BK315.out 4).trans rfl⟩ (fun hHeld => ?_)
        clear hK K
        refine norm_ (a' := ?_) ?_ ?_
        rotate_left
        · show Act.put _ (some 6) _ = _
          simp only [Act.put, List.setIfInBounds_toArray, List.set_cons_zero, List.set_cons_succ, i64_w, i32_w]
          rfl
        refine one_ (i := 10) (N := some 41) (bt 15 10239) rfl rfl (one_of HT_.out (by kernel_rfl)) (by decide) (fun K hK => ?_)
        refine Kd.R_append_rows_step (Kd.int .i64) (w0 := w) w.heap.size (by rfl) (.tmp 37) (.tmp 40) 22 3 (.int .i64 0) 8 rfl Try.underlying22 info3 rfl (by decide) (by omega) v317 y316 ((rd_T52 l0_3 x4_1).f2.f2) _ _ _ (fun k_ => some k_ ≠ (.slice Ao12 y310.length co12 : Value).ownBlock) (fun _ => False) rfl rfl ?aO ?aR (fun _ _ h => h) (fun _ h => h.elim) ?aF ?aB ?aS ?aL ?_
        (case aR => repeat (first | exact (C_below HR314_4.out HB.out) | (with_reducible refine C_alloc ?_ _) | (with_reducible refine C_drewN ?_ _) | (with_reducible refine C_drew ?_)))
        (case aB => exact (by repeat with_reducible first | exact HB.out | apply below_alloc | apply pw_below_drewN | apply below_drew1 | refine below_set ?_ GE305.out | refine below_set ?_ GE306.out | refine below_set ?_ GE313.out | refine below_set ?_ GE315.out | refine below_set ?_ GE322.out))
        (case aF => exact (fun k_ hk => Kd.fresh' (R_lt (by (with_reducible repeat (first | apply R_alloc | apply R_drewN | apply R_drew)); exact HO_314002.out)) k_ hk))
        (case aO => exact (by (with_reducible repeat (first | apply R_alloc | apply R_drewN | apply R_drew)); exact R_mono HO318.out (fun _ hk => hk.2)))
        (case aS => exact (below_size (by repeat with_reducible first | exact HB.out | apply below_alloc | apply pw_below_drewN | apply below_drew1 | refine below_set ?_ GE305.out | refine below_set ?_ GE306.out | refine below_set ?_ GE313.out | refine below_set ?_ GE315.out | refine below_set ?_ GE322.out)))
        (case aL => have := LMc19.out; omega)
        intro v320 w33 ho hb hg hat
        rw [← Ny319.out] at ho
        have n0_ := Aside0.mk (Kd.R_after (ok := (fun _ => True)) (by (with_reducible repeat (first | apply R_alloc | apply R_drewN | apply R_drew)); exact HO_314002.out) hg hat)
        have n1_ := Aside0.mk (Kd.R_after (ok := (fun k_ => some k_ ≠ (.slice Ao12 y310.length co12 : Value).ownBlock ∧ k_ ≠ gb315 ∧ k_ ≠ gb322)) (by (with_reducible repeat (first | apply R_alloc | apply R_drewN | apply R_drew)); exact R_mono HO_314003.out (fun _ hk => ⟨⟨hk.1.1.1, ⟨hk.1.1.2, hk.2⟩⟩, hk.1.2⟩)) hg hat)
        have n2_ := Aside0.mk (blk_grown (g := gb305) (o := .cells #[.int .i64 a0_0, .int .i64 a0_1, .slice A0_2 l0_2.length c0_2, .slice (some ad314) l0_3.length c0_3] 25 (0, 0)) (by (with_reducible repeat (first | refine blk_drewN ?_ _ | refine blk_drew ?_ | refine blk_alloc ?_ _)); exact BK305.out) hg (Kd.R_ne HO318.out BK305.out (by decide)))
        have n3_ := Aside0.mk (blk_grown (g := gb306) (o := .cells #[.int .i64 0, .int .i64 0, .slice none 0 0, .slice none 0 0] 25 (0, 0)) (by (with_reducible repeat (first | refine blk_drewN ?_ _ | refine blk_drew ?_ | refine blk_alloc ?_ _)); exact BK306.out) hg (Kd.R_ne HO318.out BK306.out (by decide)))
        have n4_ := Aside0.mk (blk_grown (g := gb313) (o := .cells #[.int .i64 a0_0, .int .i64 a0_1, .slice Ao12 y310.length co12, u314003] 25 (0, 0)) (by (with_reducible repeat (first | refine blk_drewN ?_ _ | refine blk_drew ?_ | refine blk_alloc ?_ _)); exact BK313.out) hg (Kd.R_ne HO318.out BK313.out (by decide)))
        have n5_ := Aside0.mk (blk_grown (g := gb315) (o := .cells #[.slice A314_0 ((rd_T52 l0_3 x4_1).f0).length c314_0, .slice A314_1 ((rd_T52 l0_3 x4_1).f1).length c314_1, .int .i64 ((rd_T52 l0_3 x4_1).f2.f0), .int .i64 ((rd_T52 l0_3 x4_1).f2.f1), .slice A314_4 ((rd_T52 l0_3 x4_1).f2.f2).length c314_4] 52 (0, 0)) (by (with_reducible repeat (first | refine blk_drewN ?_ _ | refine blk_drew ?_ | refine blk_alloc ?_ _)); exact BK315.out) hg (Kd.R_ne HO318.out BK315.out (by decide)))
        have n6_ := Aside0.mk (blk_grown (g := gb322) (o := .cells #[.slice none 0 0, .slice none 0 0, .int .i64 0, .int .i64 0, .slice none 0 0] 52 (0, 0)) (by (with_reducible repeat (first | refine blk_drewN ?_ _ | refine blk_drew ?_ | refine blk_alloc ?_ _)); exact BK322.out) hg (Kd.R_ne HO318.out BK322.out (by decide)))
        have n7_ := Aside0.mk (hb)
        have n8_ := Aside0.mk (ho)
        clear HO_314002
        clear HO_314003
        clear BK305
        clear BK306
        clear BK313
        clear BK315
        clear BK322
        clear HB
        clear HO318
        have HO_314002 := n0_
        have HO_314003 := n1_
        have BK305 := n2_
        have BK306 := n3_
        have BK313 := n4_
        have BK315 := n5_
        have BK322 := n6_
        have HB := n7_
        have HO321 := n8_
        clear n0_ n1_ n2_ n3_ n4_ n5_ n6_ n7_ n8_
        clear ho hb hg hat
        obtain ⟨Ao34, co34, eo34⟩ := Kd.R_slice HO321.out
        (first | subst eo34 | (injection eo34 with f1_ f2_ f3_; have f4_ := f1_.symm; have f5_ := f3_.symm; clear f1_ f2_ f3_; subst f4_; subst f5_))
        refine hK.out _ _ ⟨(blk_cell BK315.out 0).trans rfl, (blk_cell BK315.out 1).trans rfl, (blk_cell BK315.out 2).trans rfl, (blk_cell BK315.out 3).trans rfl, (blk_cell BK315.out 4).trans rfl⟩ (fun hHeld => ?_)
        clear hK K
        refine norm_ (a' := ?_) ?_ ?_
        rotate_left
        · show Act.put _ (some 41) _ = _
          simp only [Act.put, List.setIfInBounds_toArray, List.set_cons_zero, List.set_cons_succ, i64_w, i32_w]
          rfl
        refine pu 11 42 (bt 15 12287) HT_.out ?_
        refine pu 12 43 (bt 15 16383) HT_.out ?_
        exact norm_ (by simp only [putAll, Act.put, List.setIfInBounds_toArray, List.set_cons_zero, List.set_cons_succ]) (hCont (v317, .slice Ao34 y319.length co34, gb322) _ ⟨hHeld, (by (with_reducible repeat (first | apply R_alloc | apply R_drewN | apply R_drew)); exact HO321.out), (by (with_reducible repeat (first | apply R_alloc | apply R_drewN | apply R_drew)); exact R_mono HO_314002.out (fun _ hk => hk.2)), (by (with_reducible repeat (first | apply R_alloc | apply R_drewN | apply R_drew)); exact R_mono HO_314003.out (fun _ hk => ⟨hk.2, ⟨hk.1.1, ⟨hk.1.2.1, hk.1.2.2⟩⟩⟩)), (by (with_reducible repeat (first | refine blk_drewN ?_ _ | refine blk_drew ?_ | refine blk_alloc ?_ _)); exact BK305.out), (by (with_reducible repeat (first | refine blk_drewN ?_ _ | refine blk_drew ?_ | refine blk_alloc ?_ _)); exact BK306.out), (by (with_reducible repeat (first | refine blk_drewN ?_ _ | refine blk_drew ?_ | refine blk_alloc ?_ _)); exact BK313.out), (by (with_reducible repeat (first | refine blk_drewN ?_ _ | refine blk_drew ?_ | refine blk_alloc ?_ _)); exact BK315.out), (by (with_reducible repeat (first | refine blk_drewN ?_ _ | refine blk_drew ?_ | refine blk_alloc ?_ _)); exact BK322.out), GW322.out, GE322.out, NB305_322.out, NB322_305.out, NB306_322.out, NB322_306.out, NB313_322.out, NB322_313.out, NB315_322.out, NB322_315.out, (by repeat with_reducible first | exact HB.out | apply below_alloc | apply pw_below_drewN | apply below_drew1 | refine below_set ?_ GE305.out | refine below_set ?_ GE306.out | refine below_set ?_ GE313.out | refine below_set ?_ GE315.out | refine below_set ?_ GE322.out)⟩)
      skip
      refine box_step ?hg (N := 6) ?hd (cs := #[.slice none 0 0, .slice none 0 0, .int .i64 0, .int .i64 0, .slice none 0 0]) (t := 52) ?hr ?_; (case hd => rfl); (case hg => rfl); (case hr => first | (go_simp; done) | (go_simp; rfl))
      intro gb322 hg w30 hbox hb
      have n0_ := Aside0.mk (Kd.R_below (by (with_reducible repeat (first | apply R_alloc | apply R_drewN | apply R_drew)); exact HO_314002.out) hb)
      have n1_ := Aside0.mk (Kd.R_below (Kd.R_elderB (by (with_reducible repeat (first | apply R_alloc | apply R_drewN | apply R_drew)); exact HO_314003.out) gb322 (Nat.le_of_eq hg.symm)) hb)
      have n2_ := Aside0.mk (blk_below (g := gb305) (o := .cells #[.int .i64 a0_0, .int .i64 a0_1, .slice A0_2 l0_2.length c0_2, .slice (some ad314) l0_3.length c0_3] 25 (0, 0)) (by (with_reducible repeat (first | refine blk_drewN ?_ _ | refine blk_drew ?_ | refine blk_alloc ?_ _)); exact BK305.out) hb)
      have n3_ := Aside0.mk (blk_below (g := gb306) (o := .cells #[.int .i64 0, .int .i64 0, .slice none 0 0, .slice none 0 0] 25 (0, 0)) (by (with_reducible repeat (first | refine blk_drewN ?_ _ | refine blk_drew ?_ | refine blk_alloc ?_ _)); exact BK306.out) hb)
      have n4_ := Aside0.mk (blk_below (g := gb313) (o := .cells #[.int .i64 a0_0, .int .i64 a0_1, .slice Ao12 y310.length co12, u314003] 25 (0, 0)) (by (with_reducible repeat (first | refine blk_drewN ?_ _ | refine blk_drew ?_ | refine blk_alloc ?_ _)); exact BK313.out) hb)
      have n5_ := Aside0.mk (blk_below (g := gb315) (o := .cells #[.slice A314_0 ((rd_T52 l0_3 x4_1).f0).length c314_0, .slice A314_1 ((rd_T52 l0_3 x4_1).f1).length c314_1, .int .i64 ((rd_T52 l0_3 x4_1).f2.f0), .int .i64 ((rd_T52 l0_3 x4_1).f2.f1), .slice A314_4 ((rd_T52 l0_3 x4_1).f2.f2).length c314_4] 52 (0, 0)) (by (with_reducible repeat (first | refine blk_drewN ?_ _ | refine blk_drew ?_ | refine blk_alloc ?_ _)); exact BK315.out) hb)
      have n6_ := Aside0.mk (below_step (by repeat with_reducible first | exact HB.out | apply below_alloc | apply pw_below_drewN | apply below_drew1 | refine below_set ?_ GE305.out | refine below_set ?_ GE306.out | refine below_set ?_ GE313.out | refine below_set ?_ GE315.out) hb)
      have n7_ := Aside0.mk (hbox)
      have n8_ := Aside0.mk ((by rw [hg]; exact (below_size (by repeat with_reducible first | exact HB.out | apply below_alloc | apply pw_below_drewN | apply below_drew1 | refine below_set ?_ GE305.out | refine below_set ?_ GE306.out | refine below_set ?_ GE313.out | refine below_set ?_ GE315.out)) : w.heap.size ≤ gb322))
      have n9_ := Aside0.mk ((by rw [hg]; exact (below_size (by repeat with_reducible first | exact HB.out | apply below_alloc | apply pw_below_drewN | apply below_drew1 | refine below_set ?_ GE305.out | refine below_set ?_ GE306.out | refine below_set ?_ GE313.out | refine below_set ?_ GE315.out)) : w.heap.size ≤ gb322))
      have n10_ := Aside0.mk ((by rw [hg]; exact Nat.ne_of_lt (blk_lt (g := gb305) (o := .cells #[.int .i64 a0_0, .int .i64 a0_1, .slice A0_2 l0_2.length c0_2, .slice (some ad314) l0_3.length c0_3] 25 (0, 0)) (by (with_reducible repeat (first | refine blk_drewN ?_ _ | refine blk_drew ?_ | refine blk_alloc ?_ _)); exact BK305.out)) : gb305 ≠ gb322))
      have n11_ := Aside0.mk ((by rw [hg]; exact Nat.ne_of_gt (blk_lt (g := gb305) (o := .cells #[.int .i64 a0_0, .int .i64 a0_1, .slice A0_2 l0_2.length c0_2, .slice (some ad314) l0_3.length c0_3] 25 (0, 0)) (by (with_reducible repeat (first | refine blk_drewN ?_ _ | refine blk_drew ?_ | refine blk_alloc ?_ _)); exact BK305.out)) : gb322 ≠ gb305))
      have n12_ := Aside0.mk ((by rw [hg]; exact Nat.ne_of_lt (blk_lt (g := gb306) (o := .cells #[.int .i64 0, .int .i64 0, .slice none 0 0, .slice none 0 0] 25 (0, 0)) (by (with_reducible repeat (first | refine blk_drewN ?_ _ | refine blk_drew ?_ | refine blk_alloc ?_ _)); exact BK306.out)) : gb306 ≠ gb322))
      have n13_ := Aside0.mk ((by rw [hg]; exact Nat.ne_of_gt (blk_lt (g := gb306) (o := .cells #[.int .i64 0, .int .i64 0, .slice none 0 0, .slice none 0 0] 25 (0, 0)) (by (with_reducible repeat (first | refine blk_drewN ?_ _ | refine blk_drew ?_ | refine blk_alloc ?_ _)); exact BK306.out)) : gb322 ≠ gb306))
      have n14_ := Aside0.mk ((by rw [hg]; exact Nat.ne_of_lt (blk_lt (g := gb313) (o := .cells #[.int .i64 a0_0, .int .i64 a0_1, .slice Ao12 y310.length co12, u314003] 25 (0, 0)) (by (with_reducible repeat (first | refine blk_drewN ?_ _ | refine blk_drew ?_ | refine blk_alloc ?_ _)); exact BK313.out)) : gb313 ≠ gb322))
      have n15_ := Aside0.mk ((by rw [hg]; exact Nat.ne_of_gt (blk_lt (g := gb313) (o := .cells #[.int .i64 a0_0, .int .i64 a0_1, .slice Ao12 y310.length co12, u314003] 25 (0, 0)) (by (with_reducible repeat (first | refine blk_drewN ?_ _ | refine blk_drew ?_ | refine blk_alloc ?_ _)); exact BK313.out)) : gb322 ≠ gb313))
      have n16_ := Aside0.mk ((by rw [hg]; exact Nat.ne_of_lt (blk_lt (g := gb315) (o := .cells #[.slice A314_0 ((rd_T52 l0_3 x4_1).f0).length c314_0, .slice A314_1 ((rd_T52 l0_3 x4_1).f1).length c314_1, .int .i64 ((rd_T52 l0_3 x4_1).f2.f0), .int .i64 ((rd_T52 l0_3 x4_1).f2.f1), .slice A314_4 ((rd_T52 l0_3 x4_1).f2.f2).length c314_4] 52 (0, 0)) (by (with_reducible repeat (first | refine blk_drewN ?_ _ | refine blk_drew ?_ | refine blk_alloc ?_ _)); exact BK315.out)) : gb315 ≠ gb322))
      have n17_ := Aside0.mk ((by rw [hg]; exact Nat.ne_of_gt (blk_lt (g := gb315) (o := .cells #[.slice A314_0 ((rd_T52 l0_3 x4_1).f0).length c314_0, .slice A314_1 ((rd_T52 l0_3 x4_1).f1).length c314_1, .int .i64 ((rd_T52 l0_3 x4_1).f2.f0), .int .i64 ((rd_T52 l0_3 x4_1).f2.f1), .slice A314_4 ((rd_T52 l0_3 x4_1).f2.f2).length c314_4] 52 (0, 0)) (by (with_reducible repeat (first | refine blk_drewN ?_ _ | refine blk_drew ?_ | refine blk_alloc ?_ _)); exact BK315.out)) : gb322 ≠ gb315))
      clear HO_314002
      clear HO_314003
      clear BK305
      clear BK306
      clear BK313
      clear BK315
      clear HB
      have HO_314002 := n0_
      have HO_314003 := n1_
      have BK305 := n2_
      have BK306 := n3_
      have BK313 := n4_
      have BK315 := n5_
      have HB := n6_
      have BK322 := n7_
      have GW322 := n8_
      have GE322 := n9_
      have NB305_322 := n10_
      have NB322_305 := n11_
      have NB306_322 := n12_
      have NB322_306 := n13_
      have NB313_322 := n14_
      have NB322_313 := n15_
      have NB315_322 := n16_
      have NB322_315 := n17_
      clear n0_ n1_ n2_ n3_ n4_ n5_ n6_ n7_ n8_ n9_ n10_ n11_ n12_ n13_ n14_ n15_ n16_ n17_
      clear hb hbox hg
      refine hK.out _ _ ⟨(blk_cell BK315.out 0).trans rfl, (blk_cell BK315.out 1).trans rfl, (blk_cell BK315.out 2).trans rfl, (blk_cell BK315.out 3).trans rfl, (blk_cell BK315.out 4).trans rfl⟩ (fun hHeld => ?_)
      clear hK K
      refine norm_ (a' := ?_) ?_ ?_
      rotate_left
      · show Act.put _ (some 6) _ = _
        simp only [Act.put, List.setIfInBounds_toArray, List.set_cons_zero, List.set_cons_succ, i64_w, i32_w]
        rfl
      refine one_ (i := 6) (N := some 37) (bt 15 9215) rfl rfl (one_of HT_.out (by kernel_rfl)) (by decide) (fun K hK => ?_)
      refine Kd.R_lit_step (Kd.int .i64) _ 3 ?hg (N := 37) ?hd (xs := ([] : List Int)) (inner := []) (ok := fun _ => True) (okp := fun _ => True) ?hr ?hp (fun _ hk => hk) trivial (Below.refl _ _) (Nat.le_refl _) (by simp) ?_; (case hd => rfl); (case hg => rfl); (case hr => first | (go_simp; done) | (go_simp; rfl)); (case hp => exact (Reps.none _ _))
      intro v317 w31 ho32 hb hg_ hnew_
      clear hg_ hnew_
      rw [← Ny316.out] at ho32
      have n0_ := Aside0.mk (R_elder' (by (with_reducible repeat (first | apply R_alloc | apply R_drewN | apply R_drew)); exact HO_314002.out) (R_base ho32) hb)
      have n1_ := Aside0.mk (R_elder' (by (with_reducible repeat (first | apply R_alloc | apply R_drewN | apply R_drew)); exact HO_314003.out) (R_base ho32) hb)
      have n2_ := Aside0.mk (Kd.R_lower (R_new' ho32 (R_lt (by (with_reducible repeat (first | apply R_alloc | apply R_drewN | apply R_drew)); exact HO_314002.out))) (below_size (by repeat with_reducible first | exact HB.out | apply below_alloc | apply pw_below_drewN | apply below_drew1 | refine below_set ?_ GE305.out | refine below_set ?_ GE306.out | refine below_set ?_ GE313.out | refine below_set ?_ GE315.out | refine below_set ?_ GE322.out)))
      have n3_ := Aside0.mk (blk_below (g := gb305) (o := .cells #[.int .i64 a0_0, .int .i64 a0_1, .slice A0_2 l0_2.length c0_2, .slice (some ad314) l0_3.length c0_3] 25 (0, 0)) (by (with_reducible repeat (first | refine blk_drewN ?_ _ | refine blk_drew ?_ | refine blk_alloc ?_ _)); exact BK305.out) hb)
      have n4_ := Aside0.mk (blk_below (g := gb306) (o := .cells #[.int .i64 0, .int .i64 0, .slice none 0 0, .slice none 0 0] 25 (0, 0)) (by (with_reducible repeat (first | refine blk_drewN ?_ _ | refine blk_drew ?_ | refine blk_alloc ?_ _)); exact BK306.out) hb)
      have n5_ := Aside0.mk (blk_below (g := gb313) (o := .cells #[.int .i64 a0_0, .int .i64 a0_1, .slice Ao12 y310.length co12, u314003] 25 (0, 0)) (by (with_reducible repeat (first | refine blk_drewN ?_ _ | refine blk_drew ?_ | refine blk_alloc ?_ _)); exact BK313.out) hb)
      have n6_ := Aside0.mk (blk_below (g := gb315) (o := .cells #[.slice A314_0 ((rd_T52 l0_3 x4_1).f0).length c314_0, .slice A314_1 ((rd_T52 l0_3 x4_1).f1).length c314_1, .int .i64 ((rd_T52 l0_3 x4_1).f2.f0), .int .i64 ((rd_T52 l0_3 x4_1).f2.f1), .slice A314_4 ((rd_T52 l0_3 x4_1).f2.f2).length c314_4] 52 (0, 0)) (by (with_reducible repeat (first | refine blk_drewN ?_ _ | refine blk_drew ?_ | refine blk_alloc ?_ _)); exact BK315.out) hb)
      have n7_ := Aside0.mk (blk_below (g := gb322) (o := .cells #[.slice none 0 0, .slice none 0 0, .int .i64 0, .int .i64 0, .slice none 0 0] 52 (0, 0)) (by (with_reducible repeat (first | refine blk_drewN ?_ _ | refine blk_drew ?_ | refine blk_alloc ?_ _)); exact BK322.out) hb)
      have n8_ := Aside0.mk (below_step (by repeat with_reducible first | exact HB.out | apply below_alloc | apply pw_below_drewN | apply below_drew1 | refine below_set ?_ GE305.out | refine below_set ?_ GE306.out | refine below_set ?_ GE313.out | refine below_set ?_ GE315.out | refine below_set ?_ GE322.out) hb)
      clear HO_314002
      clear HO_314003
      clear BK305
      clear BK306
      clear BK313
      clear BK315
      clear BK322
      clear HB
      have HO_314002 := n0_
      have HO_314003 := n1_
      have HO318 := n2_
      have BK305 := n3_
      have BK306 := n4_
      have BK313 := n5_
      have BK315 := n6_
      have BK322 := n7_
      have HB := n8_
      clear n0_ n1_ n2_ n3_ n4_ n5_ n6_ n7_ n8_
      clear hb ho32
      refine hK.out _ _ ⟨(blk_cell BK315.out 0).trans rfl, (blk_cell BK315.out 1).trans rfl, (blk_cell BK315.out 2).trans rfl, (blk_cell BK315.out 3).trans rfl, (blk_cell BK315.out 4).trans rfl⟩ (fun hHeld => ?_)
      clear hK K
      refine norm_ (a' := ?_) ?_ ?_
      rotate_left
      · show Act.put _ (some 37) _ = _
        simp only [Act.put, List.setIfInBounds_toArray, List.set_cons_zero, List.set_cons_succ, i64_w, i32_w]
        rfl
      refine one_ (i := 10) (N := some 41) (bt 15 10239) rfl rfl (one_of HT_.out (by kernel_rfl)) (by decide) (fun K hK => ?_)
      refine Kd.R_append_rows_step (Kd.int .i64) (w0 := w) w.heap.size (by rfl) (.tmp 37) (.tmp 40) 22 3 (.int .i64 0) 8 rfl Try.underlying22 info3 rfl (by decide) (by omega) v317 y316 ((rd_T52 l0_3 x4_1).f2.f2) _ _ _ (fun k_ => some k_ ≠ (.slice Ao12 y310.length co12 : Value).ownBlock) (fun _ => False) rfl rfl ?aO ?aR (fun _ _ h => h) (fun _ h => h.elim) ?aF ?aB ?aS ?aL ?_
      (case aR => repeat (first | exact (C_below HR314_4.out HB.out) | (with_reducible refine C_alloc ?_ _) | (with_reducible refine C_drewN ?_ _) | (with_reducible refine C_drew ?_)))
      (case aB => exact (by repeat with_reducible first | exact HB.out | apply below_alloc | apply pw_below_drewN | apply below_drew1 | refine below_set ?_ GE305.out | refine below_set ?_ GE306.out | refine below_set ?_ GE313.out | refine below_set ?_ GE315.out | refine below_set ?_ GE322.out))
      (case aF => exact (fun k_ hk => Kd.fresh' (R_lt (by (with_reducible repeat (first | apply R_alloc | apply R_drewN | apply R_drew)); exact HO_314002.out)) k_ hk))
      (case aO => exact (by (with_reducible repeat (first | apply R_alloc | apply R_drewN | apply R_drew)); exact R_mono HO318.out (fun _ hk => hk.2)))
      (case aS => exact (below_size (by repeat with_reducible first | exact HB.out | apply below_alloc | apply pw_below_drewN | apply below_drew1 | refine below_set ?_ GE305.out | refine below_set ?_ GE306.out | refine below_set ?_ GE313.out | refine below_set ?_ GE315.out | refine below_set ?_ GE322.out)))
      (case aL => have := LMc19.out; omega)
      intro v320 w33 ho hb hg hat
      rw [← Ny319.out] at ho
      have n0_ := Aside0.mk (Kd.R_after (ok := (fun _ => True)) (by (with_reducible repeat (first | apply R_alloc | apply R_drewN | apply R_drew)); exact HO_314002.out) hg hat)
      have n1_ := Aside0.mk (Kd.R_after (ok := (fun k_ => some k_ ≠ (.slice Ao12 y310.length co12 : Value).ownBlock ∧ k_ ≠ gb315 ∧ k_ ≠ gb322)) (by (with_reducible repeat (first | apply R_alloc | apply R_drewN | apply R_drew)); exact R_mono HO_314003.out (fun _ hk => ⟨⟨hk.1.1.1, ⟨hk.1.1.2, hk.1.2⟩⟩, hk.2⟩)) hg hat)
      have n2_ := Aside0.mk (blk_grown (g := gb305) (o := .cells #[.int .i64 a0_0, .int .i64 a0_1, .slice A0_2 l0_2.length c0_2, .slice (some ad314) l0_3.length c0_3] 25 (0, 0)) (by (with_reducible repeat (first | refine blk_drewN ?_ _ | refine blk_drew ?_ | refine blk_alloc ?_ _)); exact BK305.out) hg (Kd.R_ne HO318.out BK305.out (by decide)))
      have n3_ := Aside0.mk (blk_grown (g := gb306) (o := .cells #[.int .i64 0, .int .i64 0, .slice none 0 0, .slice none 0 0] 25 (0, 0)) (by (with_reducible repeat (first | refine blk_drewN ?_ _ | refine blk_drew ?_ | refine blk_alloc ?_ _)); exact BK306.out) hg (Kd.R_ne HO318.out BK306.out (by decide)))
      have n4_ := Aside0.mk (blk_grown (g := gb313) (o := .cells #[.int .i64 a0_0, .int .i64 a0_1, .slice Ao12 y310.length co12, u314003] 25 (0, 0)) (by (with_reducible repeat (first | refine blk_drewN ?_ _ | refine blk_drew ?_ | refine blk_alloc ?_ _)); exact BK313.out) hg (Kd.R_ne HO318.out BK313.out (by decide)))
      have n5_ := Aside0.mk (blk_grown (g := gb315) (o := .cells #[.slice A314_0 ((rd_T52 l0_3 x4_1).f0).length c314_0, .slice A314_1 ((rd_T52 l0_3 x4_1).f1).length c314_1, .int .i64 ((rd_T52 l0_3 x4_1).f2.f0), .int .i64 ((rd_T52 l0_3 x4_1).f2.f1), .slice A314_4 ((rd_T52 l0_3 x4_1).f2.f2).length c314_4] 52 (0, 0)) (by (with_reducible repeat (first | refine blk_drewN ?_ _ | refine blk_drew ?_ | refine blk_alloc ?_ _)); exact BK315.out) hg (Kd.R_ne HO318.out BK315.out (by decide)))
      have n6_ := Aside0.mk (blk_grown (g := gb322) (o := .cells #[.slice none 0 0, .slice none 0 0, .int .i64 0, .int .i64 0, .slice none 0 0] 52 (0, 0)) (by (with_reducible repeat (first | refine blk_drewN ?_ _ | refine blk_drew ?_ | refine blk_alloc ?_ _)); exact BK322.out) hg (Kd.R_ne HO318.out BK322.out (by decide)))
      have n7_ := Aside0.mk (hb)
      have n8_ := Aside0.mk (ho)
      clear HO_314002
      clear HO_314003
      clear BK305
      clear BK306
      clear BK313
      clear BK315
      clear BK322
      clear HB
      clear HO318
      have HO_314002 := n0_
      have HO_314003 := n1_
      have BK305 := n2_
      have BK306 := n3_
      have BK313 := n4_
      have BK315 := n5_
      have BK322 := n6_
      have HB := n7_
      have HO321 := n8_
      clear n0_ n1_ n2_ n3_ n4_ n5_ n6_ n7_ n8_
      clear ho hb hg hat
      obtain ⟨Ao34, co34, eo34⟩ := Kd.R_slice HO321.out
      (first | subst eo34 | (injection eo34 with f1_ f2_ f3_; have f4_ := f1_.symm; have f5_ := f3_.symm; clear f1_ f2_ f3_; subst f4_; subst f5_))
      refine hK.out _ _ ⟨(blk_cell BK315.out 0).trans rfl, (blk_cell BK315.out 1).trans rfl, (blk_cell BK315.out 2).trans rfl, (blk_cell BK315.out 3).trans rfl, (blk_cell BK315.out 4).trans rfl⟩ (fun hHeld => ?_)
      clear hK K
      refine norm_ (a' := ?_) ?_ ?_
      rotate_left
      · show Act.put _ (some 41) _ = _
        simp only [Act.put, List.setIfInBounds_toArray, List.set_cons_zero, List.set_cons_succ, i64_w, i32_w]
        rfl
      refine pu 11 42 (bt 15 12287) HT_.out ?_
      refine pu 12 43 (bt 15 16383) HT_.out ?_
      exact norm_ (by simp only [putAll, Act.put, List.setIfInBounds_toArray, List.set_cons_zero, List.set_cons_succ]) (hCont (v317, .slice Ao34 y319.length co34, gb322) _ ⟨hHeld, (by (with_reducible repeat (first | apply R_alloc | apply R_drewN | apply R_drew)); exact HO321.out), (by (with_reducible repeat (first | apply R_alloc | apply R_drewN | apply R_drew)); exact R_mono HO_314002.out (fun _ hk => hk.2)), (by (with_reducible repeat (first | apply R_alloc | apply R_drewN | apply R_drew)); exact R_mono HO_314003.out (fun _ hk => ⟨hk.2, ⟨hk.1.1, ⟨hk.1.2.1, hk.1.2.2⟩⟩⟩)), (by (with_reducible repeat (first | refine blk_drewN ?_ _ | refine blk_drew ?_ | refine blk_alloc ?_ _)); exact BK305.out), (by (with_reducible repeat (first | refine blk_drewN ?_ _ | refine blk_drew ?_ | refine blk_alloc ?_ _)); exact BK306.out), (by (with_reducible repeat (first | refine blk_drewN ?_ _ | refine blk_drew ?_ | refine blk_alloc ?_ _)); exact BK313.out), (by (with_reducible repeat (first | refine blk_drewN ?_ _ | refine blk_drew ?_ | refine blk_alloc ?_ _)); exact BK315.out), (by (with_reducible repeat (first | refine blk_drewN ?_ _ | refine blk_drew ?_ | refine blk_alloc ?_ _)); exact BK322.out), GW322.out, GE322.out, NB305_322.out, NB322_305.out, NB306_322.out, NB322_306.out, NB313_322.out, NB322_313.out, NB315_322.out, NB322_315.out, (by repeat with_reducible first | exact HB.out | apply below_alloc | apply pw_below_drewN | apply below_drew1 | refine below_set ?_ GE305.out | refine below_set ?_ GE306.out | refine below_set ?_ GE313.out | refine below_set ?_ GE315.out | refine below_set ?_ GE322.out)⟩)
    rintro ⟨v317, v320, gb322⟩ w35 ⟨hS_, h0_, h1_, h2_, h3_, h4_, h5_, h6_, h7_, h8_, h9_, h10_, h11_, h12_, h13_, h14_, h15_, h16_, h17_, h18_⟩
    have n0_ : Aside0 (Kd.R (Kd.int .i64) 3 w35 w.heap.size (fun k_ => some k_ ≠ (.slice Ao12 y310.length co12 : Value).ownBlock) v320 y319) := ⟨h0_⟩
    have n1_ : Aside0 (Kd.R (Kd.int .i64) 3 w35 w.heap.size (fun k_ => some k_ ≠ (v320 : Value).ownBlock) (.slice Ao12 y310.length co12) y310) := ⟨h1_⟩
    have n2_ : Aside0 (Kd.R k52 52 w35 w.heap.size (fun k_ => some k_ ≠ (v320 : Value).ownBlock ∧ some k_ ≠ (.slice Ao12 y310.length co12 : Value).ownBlock ∧ k_ ≠ gb315 ∧ k_ ≠ gb322) u314003 x314003_1) := ⟨h2_⟩
    have n3_ : Aside0 (w35.heap[gb305]? = some (.cells #[.int .i64 a0_0, .int .i64 a0_1, .slice A0_2 l0_2.length c0_2, .slice (some ad314) l0_3.length c0_3] 25 (0, 0))) := ⟨h3_⟩
    have n4_ : Aside0 (w35.heap[gb306]? = some (.cells #[.int .i64 0, .int .i64 0, .slice none 0 0, .slice none 0 0] 25 (0, 0))) := ⟨h4_⟩
    have n5_ : Aside0 (w35.heap[gb313]? = some (.cells #[.int .i64 a0_0, .int .i64 a0_1, .slice Ao12 y310.length co12, u314003] 25 (0, 0))) := ⟨h5_⟩
    have n6_ : Aside0 (w35.heap[gb315]? = some (.cells #[.slice A314_0 ((rd_T52 l0_3 x4_1).f0).length c314_0, .slice A314_1 ((rd_T52 l0_3 x4_1).f1).length c314_1, .int .i64 ((rd_T52 l0_3 x4_1).f2.f0), .int .i64 ((rd_T52 l0_3 x4_1).f2.f1), .slice A314_4 ((rd_T52 l0_3 x4_1).f2.f2).length c314_4] 52 (0, 0))) := ⟨h6_⟩
    have n7_ : Aside0 (w35.heap[gb322]? = some (.cells #[.slice none 0 0, .slice none 0 0, .int .i64 0, .int .i64 0, .slice none 0 0] 52 (0, 0))) := ⟨h7_⟩
    have n8_ : Aside0 (w.heap.size ≤ gb322) := ⟨h8_⟩
    have n9_ : Aside0 (w.heap.size ≤ gb322) := ⟨h9_⟩
    have n10_ : Aside0 (gb305 ≠ gb322) := ⟨h10_⟩
    have n11_ : Aside0 (gb322 ≠ gb305) := ⟨h11_⟩
    have n12_ : Aside0 (gb306 ≠ gb322) := ⟨h12_⟩
    have n13_ : Aside0 (gb322 ≠ gb306) := ⟨h13_⟩
    have n14_ : Aside0 (gb313 ≠ gb322) := ⟨h14_⟩
    have n15_ : Aside0 (gb322 ≠ gb313) := ⟨h15_⟩
    have n16_ : Aside0 (gb315 ≠ gb322) := ⟨h16_⟩
    have n17_ : Aside0 (gb322 ≠ gb315) := ⟨h17_⟩
    have n18_ : Aside0 (Below w.heap.size w w35) := ⟨h18_⟩
    clear HO_314002
    clear HO_314003
    clear BK305
    clear BK306
    clear BK313
    clear BK315
    clear HB
    clear h0_ h1_ h2_ h3_ h4_ h5_ h6_ h7_ h8_ h9_ h10_ h11_ h12_ h13_ h14_ h15_ h16_ h17_ h18_
    have HO321 := n0_
    have HO_314002 := n1_
    have HO_314003 := n2_
    have BK305 := n3_
    have BK306 := n4_
    have BK313 := n5_
    have BK315 := n6_
    have BK322 := n7_
    have GW322 := n8_
    have GE322 := n9_
    have NB305_322 := n10_
    have NB322_305 := n11_
    have NB306_322 := n12_
    have NB322_306 := n13_
    have NB313_322 := n14_
    have NB322_313 := n15_
    have NB315_322 := n16_
    have NB322_315 := n17_
    have HB := n18_
    clear n0_ n1_ n2_ n3_ n4_ n5_ n6_ n7_ n8_ n9_ n10_ n11_ n12_ n13_ n14_ n15_ n16_ n17_ n18_
    have hHeld : w35.cell? ⟨gb315, 0, none⟩ = some (.slice A314_0 ((rd_T52 l0_3 x4_1).f0).length c314_0) ∧ w35.cell? ⟨gb315, 1, none⟩ = some (.slice A314_1 ((rd_T52 l0_3 x4_1).f1).length c314_1) ∧ w35.cell? ⟨gb315, 2, none⟩ = some (.int .i64 ((rd_T52 l0_3 x4_1).f2.f0)) ∧ w35.cell? ⟨gb315, 3, none⟩ = some (.int .i64 ((rd_T52 l0_3 x4_1).f2.f1)) ∧ w35.cell? ⟨gb315, 4, none⟩ = some (.slice A314_4 ((rd_T52 l0_3 x4_1).f2.f2).length c314_4) := hS_
    obtain ⟨Ao36, co36, eo36⟩ := Kd.R_slice HO321.out
    (first | subst eo36 | (injection eo36 with f1_ f2_ f3_; have f4_ := f1_.symm; have f5_ := f3_.symm; clear f1_ f2_ f3_; subst f4_; subst f5_))
    refine norm_ (a' := ?_) ?_ ?_
    rotate_left
    · simp only [putAll, Act.put, List.setIfInBounds_toArray, List.set_cons_zero, List.set_cons_succ]
      rfl
    refine one_ (i := 14) (N := none) (bt 15 32767) rfl rfl (one_of HT_.out (by kernel_rfl)) (by decide) (fun K hK => ?_)
    have hs37 : w35.cell? ⟨gb322, 0, none⟩ = some (.slice none 0 0) := (blk_cell BK322.out 0).trans rfl
    have hfs37 := blk_frozen BK322.out 0
    have hns37_0 := NB305_322.out
    have hns37_1 := NB306_322.out
    have hns37_2 := NB313_322.out
    have hns37_3 := NB315_322.out
    have hms37_0 := NB322_305.out
    have hms37_1 := NB322_306.out
    have hms37_2 := NB322_313.out
    have hms37_3 := NB322_315.out
    have hs38 : w35.cell? ⟨gb322, 1, none⟩ = some (.slice none 0 0) := (blk_cell BK322.out 1).trans rfl
    have hfs38 := blk_frozen BK322.out 1
    have hns38_0 := NB305_322.out
    have hns38_1 := NB306_322.out
    have hns38_2 := NB313_322.out
    have hns38_3 := NB315_322.out
    have hms38_0 := NB322_305.out
    have hms38_1 := NB322_306.out
    have hms38_2 := NB322_313.out
    have hms38_3 := NB322_315.out
    have hs39 : w35.cell? ⟨gb322, 2, none⟩ = some (.int .i64 0) := (blk_cell BK322.out 2).trans rfl
    have hfs39 := blk_frozen BK322.out 2
    have hns39_0 := NB305_322.out
    have hns39_1 := NB306_322.out
    have hns39_2 := NB313_322.out
    have hns39_3 := NB315_322.out
    have hms39_0 := NB322_305.out
    have hms39_1 := NB322_306.out
    have hms39_2 := NB322_313.out
    have hms39_3 := NB322_315.out
    have hs40 : w35.cell? ⟨gb322, 3, none⟩ = some (.int .i64 0) := (blk_cell BK322.out 3).trans rfl
    have hfs40 := blk_frozen BK322.out 3
    have hns40_0 := NB305_322.out
    have hns40_1 := NB306_322.out
    have hns40_2 := NB313_322.out
    have hns40_3 := NB315_322.out
    have hms40_0 := NB322_305.out
    have hms40_1 := NB322_306.out
    have hms40_2 := NB322_313.out
    have hms40_3 := NB322_315.out
    have hs41 : w35.cell? ⟨gb322, 4, none⟩ = some (.slice none 0 0) := (blk_cell BK322.out 4).trans rfl
    have hfs41 := blk_frozen BK322.out 4
    have hns41_0 := NB305_322.out
    have hns41_1 := NB306_322.out
    have hns41_2 := NB313_322.out
    have hns41_3 := NB315_322.out
    have hms41_0 := NB322_305.out
    have hms41_1 := NB322_306.out
    have hms41_2 := NB322_313.out
    have hms41_3 := NB322_315.out
    refine skip_ (w1 := ?_) (by rfl) rfl ?_ ?_
    rotate_left
    · go_simp
      rfl
    refine hK.out _ _ ⟨((cell_far (p := ⟨gb322, _, none⟩) NB315_322.out _).trans (((cell_far (p := ⟨gb322, _, none⟩) NB315_322.out _).trans (((cell_far (p := ⟨gb322, _, none⟩) NB315_322.out _).trans (((cell_far (p := ⟨gb322, _, none⟩) NB315_322.out _).trans (((cell_far (p := ⟨gb322, _, none⟩) NB315_322.out _).trans (hHeld.1)))))))))), ((cell_far (p := ⟨gb322, _, none⟩) NB315_322.out _).trans (((cell_far (p := ⟨gb322, _, none⟩) NB315_322.out _).trans (((cell_far (p := ⟨gb322, _, none⟩) NB315_322.out _).trans (((cell_far (p := ⟨gb322, _, none⟩) NB315_322.out _).trans (((cell_far (p := ⟨gb322, _, none⟩) NB315_322.out _).trans (hHeld.2.1)))))))))), ((cell_far (p := ⟨gb322, _, none⟩) NB315_322.out _).trans (((cell_far (p := ⟨gb322, _, none⟩) NB315_322.out _).trans (((cell_far (p := ⟨gb322, _, none⟩) NB315_322.out _).trans (((cell_far (p := ⟨gb322, _, none⟩) NB315_322.out _).trans (((cell_far (p := ⟨gb322, _, none⟩) NB315_322.out _).trans (hHeld.2.2.1)))))))))), ((cell_far (p := ⟨gb322, _, none⟩) NB315_322.out _).trans (((cell_far (p := ⟨gb322, _, none⟩) NB315_322.out _).trans (((cell_far (p := ⟨gb322, _, none⟩) NB315_322.out _).trans (((cell_far (p := ⟨gb322, _, none⟩) NB315_322.out _).trans (((cell_far (p := ⟨gb322, _, none⟩) NB315_322.out _).trans (hHeld.2.2.2.1)))))))))), ((cell_far (p := ⟨gb322, _, none⟩) NB315_322.out _).trans (((cell_far (p := ⟨gb322, _, none⟩) NB315_322.out _).trans (((cell_far (p := ⟨gb322, _, none⟩) NB315_322.out _).trans (((cell_far (p := ⟨gb322, _, none⟩) NB315_322.out _).trans (((cell_far (p := ⟨gb322, _, none⟩) NB315_322.out _).trans (hHeld.2.2.2.2))))))))))⟩ (fun hHeld => ?_)
    clear hK K
    refine done_ (done_of HT_.out (by kernel_rfl)) ?_
    try go_wp2
    go_loopg [7] k1 (fun kq v7 w' => ∃ (x7_2 : Int) (x323000_2 : List (S62)) (u323000 : Value), v7 = .int .i64 x7_2 ∧ Aside0 (fettleref02_CopyFunc.l1 kq x4_1 x7_2 a0_0 a0_1 l0_2 l0_3 a0_0 a0_1 y310 x314003_1 ((rd_T52 l0_3 x4_1).f0) ((rd_T52 l0_3 x4_1).f1) ((rd_T52 l0_3 x4_1).f2.f0) ((rd_T52 l0_3 x4_1).f2.f1) ((rd_T52 l0_3 x4_1).f2.f2) x323000_2 ((rd_T52 l0_3 x4_1).f2.f0) ((rd_T52 l0_3 x4_1).f2.f1) y319 = some (r1, r2, r3, r4)) ∧ Aside0 (kq ≤ k1) ∧ Aside0 (Kd.R (Kd.int .i64) 3 w' w.heap.size (fun k_ => some k_ ≠ ((.slice Ao36 y319.length co36) : Value).ownBlock) (.slice Ao12 y310.length co12) y310) ∧ Aside0 (Kd.R k52 52 w' w.heap.size (fun k_ => some k_ ≠ ((.slice Ao12 y310.length co12) : Value).ownBlock ∧ some k_ ≠ (u323000 : Value).ownBlock ∧ some k_ ≠ ((.slice Ao36 y319.length co36) : Value).ownBlock ∧ k_ ≠ gb315 ∧ k_ ≠ gb322) u314003 x314003_1) ∧ Aside0 (Kd.S k62 62 w' w.heap.size (fun k_ => some k_ ≠ ((.slice Ao12 y310.length co12) : Value).ownBlock ∧ some k_ ≠ ((.slice Ao36 y319.length co36) : Value).ownBlock) u323000 x323000_2) ∧ Aside0 (Kd.R (Kd.int .i64) 3 w' w.heap.size (fun k_ => some k_ ≠ ((.slice Ao12 y310.length co12) : Value).ownBlock) (.slice Ao36 y319.length co36) y319) ∧ Aside0 (w'.heap[gb305]? = some (.cells #[.int .i64 a0_0, .int .i64 a0_1, (.slice A0_2 l0_2.length c0_2), (.slice (some ad314) l0_3.length c0_3)] 25 (0, 0))) ∧ Aside0 (w'.heap[gb306]? = some (.cells #[.int .i64 0, .int .i64 0, (.slice none 0 0), (.slice none 0 0)] 25 (0, 0))) ∧ Aside0 (w'.heap[gb313]? = some (.cells #[.int .i64 a0_0, .int .i64 a0_1, (.slice Ao12 y310.length co12), u314003] 25 (0, 0))) ∧ Aside0 (w'.heap[gb315]? = some (.cells #[(.slice A314_0 ((rd_T52 l0_3 x4_1).f0).length c314_0), (.slice A314_1 ((rd_T52 l0_3 x4_1).f1).length c314_1), .int .i64 ((rd_T52 l0_3 x4_1).f2.f0), .int .i64 ((rd_T52 l0_3 x4_1).f2.f1), (.slice A314_4 ((rd_T52 l0_3 x4_1).f2.f2).length c314_4)] 52 (0, 0))) ∧ Aside0 (w'.heap[gb322]? = some (.cells #[u323000, (.slice none 0 0), .int .i64 ((rd_T52 l0_3 x4_1).f2.f0), .int .i64 ((rd_T52 l0_3 x4_1).f2.f1), (.slice Ao36 y319.length co36)] 52 (0, 0))) ∧ Aside0 (Below w.heap.size w w'))
    case atStart => exact ⟨(0), (([] : List (S62))), (.slice none 0 0), (by first | rfl | (simp; done) | (simp [*]; done)), H', ⟨Nat.le_refl _⟩, ⟨by (with_reducible repeat (first | apply R_alloc | apply R_drewN | apply R_drew)); exact R_mono (Kd.R_far (p := ⟨gb322, 4, none⟩) (Kd.R_far (p := ⟨gb322, 3, none⟩) (Kd.R_far (p := ⟨gb322, 2, none⟩) (Kd.R_far (p := ⟨gb322, 1, none⟩) (Kd.R_far (p := ⟨gb322, 0, none⟩) (Kd.R_types HO_314002.out BK322.out (by decide)) (fun _ hk => hk.2) (.slice none 0 0)) (fun _ hk => hk.2) (.slice none 0 0)) (fun _ hk => hk.2) (.int .i64 ((rd_T52 l0_3 x4_1).f2.f0))) (fun _ hk => hk.2) (.int .i64 ((rd_T52 l0_3 x4_1).f2.f1))) (fun _ hk => hk.2) (.slice Ao36 y319.length co36)) (fun _ hk => hk.1)⟩, ⟨by (with_reducible repeat (first | apply R_alloc | apply R_drewN | apply R_drew)); exact R_mono (Kd.R_far (p := ⟨gb322, 4, none⟩) (Kd.R_far (p := ⟨gb322, 3, none⟩) (Kd.R_far (p := ⟨gb322, 2, none⟩) (Kd.R_far (p := ⟨gb322, 1, none⟩) (Kd.R_far (p := ⟨gb322, 0, none⟩) (R_mono HO_314003.out (fun k_ hk => (⟨hk, hk.2.2.2⟩ : _ ∧ k_ ≠ gb322))) (fun _ hk => hk.2) (.slice none 0 0)) (fun _ hk => hk.2) (.slice none 0 0)) (fun _ hk => hk.2) (.int .i64 ((rd_T52 l0_3 x4_1).f2.f0))) (fun _ hk => hk.2) (.int .i64 ((rd_T52 l0_3 x4_1).f2.f1))) (fun _ hk => hk.2) (.slice Ao36 y319.length co36)) (fun _ hk => ⟨hk.1.2.1, ⟨(by simp [Value.ownBlock]), ⟨hk.1.1, ⟨hk.1.2.2.1, hk.1.2.2.2⟩⟩⟩⟩)⟩, ⟨by first | exact Kd.S_nil _ _ _ _ _ | exact Kd.N_nil _ _ _ _ _ | exact Kd.V_nil _ _ _ _ _ | exact Kd.Q_nil _ _ _ _ _ | exact Kd.R_nil _ _ _ _ _⟩, ⟨by (with_reducible repeat (first | apply R_alloc | apply R_drewN | apply R_drew)); exact R_mono (Kd.R_far (p := ⟨gb322, 4, none⟩) (Kd.R_far (p := ⟨gb322, 3, none⟩) (Kd.R_far (p := ⟨gb322, 2, none⟩) (Kd.R_far (p := ⟨gb322, 1, none⟩) (Kd.R_far (p := ⟨gb322, 0, none⟩) (Kd.R_types HO321.out BK322.out (by decide)) (fun _ hk => hk.2) (.slice none 0 0)) (fun _ hk => hk.2) (.slice none 0 0)) (fun _ hk => hk.2) (.int .i64 ((rd_T52 l0_3 x4_1).f2.f0))) (fun _ hk => hk.2) (.int .i64 ((rd_T52 l0_3 x4_1).f2.f1))) (fun _ hk => hk.2) (.slice Ao36 y319.length co36)) (fun _ hk => hk.1)⟩, ⟨by (with_reducible repeat (first | refine blk_drewN ?_ _ | refine blk_drew ?_ | refine blk_alloc ?_ _)); refine blk_far ?_ NB305_322.out _; (with_reducible repeat (first | refine blk_drewN ?_ _ | refine blk_drew ?_ | refine blk_alloc ?_ _)); refine blk_far ?_ NB305_322.out _; (with_reducible repeat (first | refine blk_drewN ?_ _ | refine blk_drew ?_ | refine blk_alloc ?_ _)); refine blk_far ?_ NB305_322.out _; (with_reducible repeat (first | refine blk_drewN ?_ _ | refine blk_drew ?_ | refine blk_alloc ?_ _)); refine blk_far ?_ NB305_322.out _; (with_reducible repeat (first | refine blk_drewN ?_ _ | refine blk_drew ?_ | refine blk_alloc ?_ _)); refine blk_far ?_ NB305_322.out _; (with_reducible repeat (first | refine blk_drewN ?_ _ | refine blk_drew ?_ | refine blk_alloc ?_ _)); exact BK305.out⟩, ⟨by (with_reducible repeat (first | refine blk_drewN ?_ _ | refine blk_drew ?_ | refine blk_alloc ?_ _)); refine blk_far ?_ NB306_322.out _; (with_reducible repeat (first | refine blk_drewN ?_ _ | refine blk_drew ?_ | refine blk_alloc ?_ _)); refine blk_far ?_ NB306_322.out _; (with_reducible repeat (first | refine blk_drewN ?_ _ | refine blk_drew ?_ | refine blk_alloc ?_ _)); refine blk_far ?_ NB306_322.out _; (with_reducible repeat (first | refine blk_drewN ?_ _ | refine blk_drew ?_ | refine blk_alloc ?_ _)); refine blk_far ?_ NB306_322.out _; (with_reducible repeat (first | refine blk_drewN ?_ _ | refine blk_drew ?_ | refine blk_alloc ?_ _)); refine blk_far ?_ NB306_322.out _; (with_reducible repeat (first | refine blk_drewN ?_ _ | refine blk_drew ?_ | refine blk_alloc ?_ _)); exact BK306.out⟩, ⟨by (with_reducible repeat (first | refine blk_drewN ?_ _ | refine blk_drew ?_ | refine blk_alloc ?_ _)); refine blk_far ?_ NB313_322.out _; (with_reducible repeat (first | refine blk_drewN ?_ _ | refine blk_drew ?_ | refine blk_alloc ?_ _)); refine blk_far ?_ NB313_322.out _; (with_reducible repeat (first | refine blk_drewN ?_ _ | refine blk_drew ?_ | refine blk_alloc ?_ _)); refine blk_far ?_ NB313_322.out _; (with_reducible repeat (first | refine blk_drewN ?_ _ | refine blk_drew ?_ | refine blk_alloc ?_ _)); refine blk_far ?_ NB313_322.out _; (with_reducible repeat (first | refine blk_drewN ?_ _ | refine blk_drew ?_ | refine blk_alloc ?_ _)); refine blk_far ?_ NB313_322.out _; (with_reducible repeat (first | refine blk_drewN ?_ _ | refine blk_drew ?_ | refine blk_alloc ?_ _)); exact BK313.out⟩, ⟨by (with_reducible repeat (first | refine blk_drewN ?_ _ | refine blk_drew ?_ | refine blk_alloc ?_ _)); refine blk_far ?_ NB315_322.out _; (with_reducible repeat (first | refine blk_drewN ?_ _ | refine blk_drew ?_ | refine blk_alloc ?_ _)); refine blk_far ?_ NB315_322.out _; (with_reducible repeat (first | refine blk_drewN ?_ _ | refine blk_drew ?_ | refine blk_alloc ?_ _)); refine blk_far ?_ NB315_322.out _; (with_reducible repeat (first | refine blk_drewN ?_ _ | refine blk_drew ?_ | refine blk_alloc ?_ _)); refine blk_far ?_ NB315_322.out _; (with_reducible repeat (first | refine blk_drewN ?_ _ | refine blk_drew ?_ | refine blk_alloc ?_ _)); refine blk_far ?_ NB315_322.out _; (with_reducible repeat (first | refine blk_drewN ?_ _ | refine blk_drew ?_ | refine blk_alloc ?_ _)); exact BK315.out⟩, ⟨by (with_reducible repeat (first | refine blk_drewN ?_ _ | refine blk_drew ?_ | refine blk_alloc ?_ _)); refine blk_put (cs := #[.slice none 0 0, .slice none 0 0, .int .i64 ((rd_T52 l0_3 x4_1).f2.f0), .int .i64 ((rd_T52 l0_3 x4_1).f2.f1), .slice none 0 0]) ?_ 4 _ rfl; (with_reducible repeat (first | refine blk_drewN ?_ _ | refine blk_drew ?_ | refine blk_alloc ?_ _)); refine blk_put (cs := #[.slice none 0 0, .slice none 0 0, .int .i64 ((rd_T52 l0_3 x4_1).f2.f0), .int .i64 0, .slice none 0 0]) ?_ 3 _ rfl; (with_reducible repeat (first | refine blk_drewN ?_ _ | refine blk_drew ?_ | refine blk_alloc ?_ _)); refine blk_put (cs := #[.slice none 0 0, .slice none 0 0, .int .i64 0, .int .i64 0, .slice none 0 0]) ?_ 2 _ rfl; (with_reducible repeat (first | refine blk_drewN ?_ _ | refine blk_drew ?_ | refine blk_alloc ?_ _)); refine blk_put (cs := #[.slice none 0 0, .slice none 0 0, .int .i64 0, .int .i64 0, .slice none 0 0]) ?_ 1 _ rfl; (with_reducible repeat (first | refine blk_drewN ?_ _ | refine blk_drew ?_ | refine blk_alloc ?_ _)); refine blk_put (cs := #[.slice none 0 0, .slice none 0 0, .int .i64 0, .int .i64 0, .slice none 0 0]) ?_ 0 _ rfl; (with_reducible repeat (first | refine blk_drewN ?_ _ | refine blk_drew ?_ | refine blk_alloc ?_ _)); exact BK322.out⟩, ⟨by repeat (first | (with_reducible first | exact HB.out | apply below_alloc | apply pw_below_drewN | apply below_drew1 | refine below_set ?_ GE305.out | refine below_set ?_ GE306.out | refine below_set ?_ GE313.out | refine below_set ?_ GE315.out | refine below_set ?_ GE322.out) | exact HB.out)⟩⟩
    clear H'
    try clear c1
    try clear p2
    try clear c3
    try clear c19
    try clear c31
    obtain ⟨x7_2, x323000_2, u323000, rfl, HA, HK2, HO_314002, HO_314003, HO_323000, HO_323004, BK305, BK306, BK313, BK315, BK322, HB⟩ := hrel
    rcases gk with _ | k2
    · exact absurd HA.out (by simp [fettleref02_CopyFunc.l1])
    have H := HA.out
    clear HA
    simp only [fettleref02_CopyFunc.l1] at H
    by_cases c42 : x7_2 < (((rd_T52 l0_3 x4_1).f0).length : Int)
    · rw [if_pos c42] at H
      have c42b0 : decide (x7_2 < (((rd_T52 l0_3 x4_1).f0).length : Int)) = true := decide_eq_true c42
      clear c42
      by_cases c43 : 0 ≤ x7_2
      rotate_left
      · rw [if_neg c43] at H
        exact absurd H (by simp)
      rw [if_pos c43] at H
      have c43b0 : decide (0 ≤ x7_2) = true := decide_eq_true c43
      clear c43
      obtain ⟨y324, hy324⟩ : ∃ y_ : List Int, y_ = (([] : List Int)) := ⟨_, rfl⟩
      replace H : (if y324.length + ((rd_T62 ((rd_T52 l0_3 x4_1).f0) x7_2).f1).length < 17592186044416 then (if x323000_2.length < 4398046511104 then (fettleref02_CopyFunc.l1 k2 x4_1 (wrap64 (x7_2 + 1)) a0_0 a0_1 l0_2 l0_3 a0_0 a0_1 y310 x314003_1 ((rd_T52 l0_3 x4_1).f0) ((rd_T52 l0_3 x4_1).f1) ((rd_T52 l0_3 x4_1).f2.f0) ((rd_T52 l0_3 x4_1).f2.f1) ((rd_T52 l0_3 x4_1).f2.f2) (x323000_2 ++ [(⟨(rd_T62 ((rd_T52 l0_3 x4_1).f0) x7_2).f0, (y324 ++ ((rd_T62 ((rd_T52 l0_3 x4_1).f0) x7_2).f1))⟩ : S62)]) ((rd_T52 l0_3 x4_1).f2.f0) ((rd_T52 l0_3 x4_1).f2.f1) y319) else (none)) else (none)) = some (r1, r2, r3, r4) := by first | (rw [hy324]; with_reducible exact H) | (have H2_ := (Option.bind_some _ _).symm.trans H; rw [hy324]; with_reducible exact H2_) | exact H
      have Ny324 := Aside0.mk hy324
      clear hy324
      by_cases c44 : y324.length + ((rd_T62 ((rd_T52 l0_3 x4_1).f0) x7_2).f1).length < 17592186044416
      rotate_left
      · rw [if_neg c44] at H
        exact absurd H (by simp)
      rw [if_pos c44] at H
      have LMc44 := Aside0.mk c44
      clear c44
      obtain ⟨y328, hy328⟩ : ∃ y_ : List Int, y_ = (y324 ++ ((rd_T62 ((rd_T52 l0_3 x4_1).f0) x7_2).f1)) := ⟨_, rfl⟩
      replace H : (if x323000_2.length < 4398046511104 then (fettleref02_CopyFunc.l1 k2 x4_1 (wrap64 (x7_2 + 1)) a0_0 a0_1 l0_2 l0_3 a0_0 a0_1 y310 x314003_1 ((rd_T52 l0_3 x4_1).f0) ((rd_T52 l0_3 x4_1).f1) ((rd_T52 l0_3 x4_1).f2.f0) ((rd_T52 l0_3 x4_1).f2.f1) ((rd_T52 l0_3 x4_1).f2.f2) (x323000_2 ++ [(⟨(rd_T62 ((rd_T52 l0_3 x4_1).f0) x7_2).f0, y328⟩ : S62)]) ((rd_T52 l0_3 x4_1).f2.f0) ((rd_T52 l0_3 x4_1).f2.f1) y319) else (none)) = some (r1, r2, r3, r4) := by first | (rw [hy328]; with_reducible exact H) | (have H2_ := (Option.bind_some _ _).symm.trans H; rw [hy328]; with_reducible exact H2_) | exact H
      have Ny328 := Aside0.mk hy328
      clear hy328
      by_cases c45 : x323000_2.length < 4398046511104
      rotate_left
      · rw [if_neg c45] at H
        exact absurd H (by simp)
      rw [if_pos c45] at H
      have LMc45 := Aside0.mk c45
      clear c45
      obtain ⟨y331, hy331⟩ : ∃ y_ : List (S62), y_ = (x323000_2 ++ [(⟨(rd_T62 ((rd_T52 l0_3 x4_1).f0) x7_2).f0, y328⟩ : S62)]) := ⟨_, rfl⟩
      replace H : (fettleref02_CopyFunc.l1 k2 x4_1 (wrap64 (x7_2 + 1)) a0_0 a0_1 l0_2 l0_3 a0_0 a0_1 y310 x314003_1 ((rd_T52 l0_3 x4_1).f0) ((rd_T52 l0_3 x4_1).f1) ((rd_T52 l0_3 x4_1).f2.f0) ((rd_T52 l0_3 x4_1).f2.f1) ((rd_T52 l0_3 x4_1).f2.f2) y331 ((rd_T52 l0_3 x4_1).f2.f0) ((rd_T52 l0_3 x4_1).f2.f1) y319) = some (r1, r2, r3, r4) := by first | (rw [hy331]; with_reducible exact H) | (have H2_ := (Option.bind_some _ _).symm.trans H; rw [hy331]; with_reducible exact H2_) | exact H
      have Ny331 := Aside0.mk hy331
      clear hy331
      have H' := Aside0.mk H
      clear H
      have hnb46 := NB315_305.out
      have hnc46 := NB305_315.out
      have hnb47 := NB315_306.out
      have hnc47 := NB306_315.out
      have hnb48 := NB315_313.out
      have hnc48 := NB313_315.out
      have hnb49 := NB315_322.out
      have hnc49 := NB322_315.out
      have hcz50_0 : wr.cell? ⟨gb315, 0, none⟩ = some (.slice A314_0 ((rd_T52 l0_3 x4_1).f0).length c314_0) := (blk_cell BK315.out 0).trans rfl
      have hcz50_1 : wr.cell? ⟨gb315, 1, none⟩ = some (.slice A314_1 ((rd_T52 l0_3 x4_1).f1).length c314_1) := (blk_cell BK315.out 1).trans rfl
      have hcz50_2 : wr.cell? ⟨gb315, 2, none⟩ = some (.int .i64 ((rd_T52 l0_3 x4_1).f2.f0)) := (blk_cell BK315.out 2).trans rfl
      have hcz50_3 : wr.cell? ⟨gb315, 3, none⟩ = some (.int .i64 ((rd_T52 l0_3 x4_1).f2.f1)) := (blk_cell BK315.out 3).trans rfl
      have hcz50_4 : wr.cell? ⟨gb315, 4, none⟩ = some (.slice A314_4 ((rd_T52 l0_3 x4_1).f2.f2).length c314_4) := (blk_cell BK315.out 4).trans rfl
      have hfz50_0 := blk_frozen BK315.out 0
      have hfz50_1 := blk_frozen BK315.out 1
      have hfz50_2 := blk_frozen BK315.out 2
      have hfz50_3 := blk_frozen BK315.out 3
      have hfz50_4 := blk_frozen BK315.out 4
      try go_wp2
      have n0_ := Aside0.mk (R_drew HO_314002.out)
      have n1_ := Aside0.mk (R_drew HO_314003.out)
      have n2_ := Aside0.mk (S_drew HO_323000.out)
      have n3_ := Aside0.mk (R_drew HO_323004.out)
      have n4_ := Aside0.mk (blk_drew BK305.out)
      have n5_ := Aside0.mk (blk_drew BK306.out)
      have n6_ := Aside0.mk (blk_drew BK313.out)
      have n7_ := Aside0.mk (blk_drew BK315.out)
      have n8_ := Aside0.mk (blk_drew BK322.out)
      have n9_ := Aside0.mk (below_drew1 HB.out)
      clear HO_314002
      clear HO_314003
      clear HO_323000
      clear HO_323004
      clear BK305
      clear BK306
      clear BK313
      clear BK315
      clear BK322
      clear HB
      have HO_314002 := n0_
      have HO_314003 := n1_
      have HO_323000 := n2_
      have HO_323004 := n3_
      have BK305 := n4_
      have BK306 := n5_
      have BK313 := n6_
      have BK315 := n7_
      have BK322 := n8_
      have HB := n9_
      clear n0_ n1_ n2_ n3_ n4_ n5_ n6_ n7_ n8_ n9_
      have p323 : 0 ≤ (x7_2 : Int) := of_decide_eq_true (by with_reducible assumption)
      have q323 : x7_2 < (((rd_T52 l0_3 x4_1).f0).length : Int) := of_decide_eq_true (by with_reducible assumption)
      obtain ⟨ad323, A323_1, c323_1, e323, hx323_0, hx323_1, hl323_1, hi323_1⟩ := at_T62 HR314_0.out x7_2 p323 q323
      have hw323_1 := hx323_1
      have hw323_0 := hx323_0
      cases e323
      replace hx323_0 := (HB.out.cell (World.block_lt_of_cell? w _ hx323_0)).trans hx323_0
      replace hx323_1 := (HB.out.cell (World.block_lt_of_cell? w _ hx323_1)).trans hx323_1
      have HR323_1 := Aside0.mk hi323_1
      have HC323_1 := Aside0.mk hl323_1
      clear hi323_1 hl323_1
      replace p323 := eq_true p323
      replace q323 := eq_true q323
      have p327 : 0 ≤ (x7_2 : Int) := of_decide_eq_true (by with_reducible assumption)
      have q327 : x7_2 < (((rd_T52 l0_3 x4_1).f0).length : Int) := of_decide_eq_true (by with_reducible assumption)
      obtain ⟨ad327, A327_1, c327_1, e327, hx327_0, hx327_1, hl327_1, hi327_1⟩ := at_T62 HR314_0.out x7_2 p327 q327
      have hw327_1 := hx327_1
      have hw327_0 := hx327_0
      obtain rfl : ad323 = ad327 := (by injection e327)
      replace hx327_0 := (HB.out.cell (World.block_lt_of_cell? w _ hx327_0)).trans hx327_0
      replace hx327_1 := (HB.out.cell (World.block_lt_of_cell? w _ hx327_1)).trans hx327_1
      have HR327_1 := Aside0.mk hi327_1
      have HC327_1 := Aside0.mk hl327_1
      clear hi327_1 hl327_1
      replace p327 := eq_true p327
      replace q327 := eq_true q327
      have ea_ := Option.some.inj (hx323_1.symm.trans hx327_1)
      injection ea_ with ea_ en_ ec_
      subst ea_
      subst ec_
      clear en_
      refine start_ (n := 21) (S := fun w' => w'.cell? ⟨gb322, 0, none⟩ = some (u323000) ∧ w'.cell? ⟨gb322, 1, none⟩ = some (.slice none 0 0) ∧ w'.cell? ⟨gb322, 2, none⟩ = some (.int .i64 ((rd_T52 l0_3 x4_1).f2.f0)) ∧ w'.cell? ⟨gb322, 3, none⟩ = some (.int .i64 ((rd_T52 l0_3 x4_1).f2.f1)) ∧ w'.cell? ⟨gb322, 4, none⟩ = some (.slice Ao36 y319.length co36) ∧ w'.cell? ⟨gb315, 0, none⟩ = some (.slice (some ad323) ((rd_T52 l0_3 x4_1).f0).length c314_0) ∧ w'.cell? ⟨gb315, 1, none⟩ = some (.slice A314_1 ((rd_T52 l0_3 x4_1).f1).length c314_1) ∧ w'.cell? ⟨gb315, 2, none⟩ = some (.int .i64 ((rd_T52 l0_3 x4_1).f2.f0)) ∧ w'.cell? ⟨gb315, 3, none⟩ = some (.int .i64 ((rd_T52 l0_3 x4_1).f2.f1)) ∧ w'.cell? ⟨gb315, 4, none⟩ = some (.slice A314_4 ((rd_T52 l0_3 x4_1).f2.f2).length c314_4) ∧ w'.cell? (ad323.add ((x7_2).toNat * 2)) = some (.int .i64 ((rd_T62 ((rd_T52 l0_3 x4_1).f0) x7_2).f0)) ∧ w'.cell? ⟨(ad323.add ((x7_2).toNat * 2)).block, (ad323.add ((x7_2).toNat * 2)).off + 1, none⟩ = some (.slice A323_1 ((rd_T62 ((rd_T52 l0_3 x4_1).f0) x7_2).f1).length c323_1) ∧ w'.cell? (ad323.add ((x7_2).toNat * 2)) = some (.int .i64 ((rd_T62 ((rd_T52 l0_3 x4_1).f0) x7_2).f0)) ∧ w'.cell? ⟨(ad323.add ((x7_2).toNat * 2)).block, (ad323.add ((x7_2).toNat * 2)).off + 1, none⟩ = some (.slice A323_1 ((rd_T62 ((rd_T52 l0_3 x4_1).f0) x7_2).f1).length c323_1)) (ds := [20]) #[false, false, false, false, false, false, false, false, false, false, false, false, false, false, false, false, false, false, false, false, false] (by kernel_rfl) rfl rfl ⟨(blk_cell BK322.out 0).trans rfl, (blk_cell BK322.out 1).trans rfl, (blk_cell BK322.out 2).trans rfl, (blk_cell BK322.out 3).trans rfl, (blk_cell BK322.out 4).trans rfl, (blk_cell BK315.out 0).trans rfl, (blk_cell BK315.out 1).trans rfl, (blk_cell BK315.out 2).trans rfl, (blk_cell BK315.out 3).trans rfl, (blk_cell BK315.out 4).trans rfl, ((HB.out.cell (World.block_lt_of_cell? w _ hw323_0)).trans hw323_0), ((HB.out.cell (World.block_lt_of_cell? w _ hw323_1)).trans hw323_1), ((HB.out.cell (World.block_lt_of_cell? w _ hw327_0)).trans hw327_0), ((HB.out.cell (World.block_lt_of_cell? w _ hw327_1)).trans hw327_1)⟩ (fun hHeld => ?_); refine with_tabW fettleref02_CopyFunc.tab10 fettleref02_CopyFunc.bits10 (fun HT_ HW_ => ?_)
      generalize wr.drew = w51 at HO_314002 HO_314003 HO_323000 HO_323004 BK305 BK306 BK313 BK315 BK322 HB HR323_1 HR327_1 hx323_0 hx323_1 hx327_0 hx327_1 hHeld ⊢
      refine pu 0 51 (bt 21 1) HT_.out ?_
      refine pu 2 53 (bt 21 5) HT_.out ?_
      refine pu 4 55 (bt 21 21) HT_.out ?_
      refine pu 9 60 (bt 21 533) HT_.out ?_
      refine pu 11 62 (bt 21 2581) HT_.out ?_
      refine tk 1 52 (bt 21 2583) HT_.out HW_.out hHeld rfl rfl (by rintro w' ⟨s0, s1, s2, s3, s4, s5, s6, s7, s8, s9, s10, s11, s12, s13⟩; go_simp; with_reducible rfl) ?_
      refine tk 3 54 (bt 21 2591) HT_.out HW_.out hHeld rfl rfl (by rintro w' ⟨s0, s1, s2, s3, s4, s5, s6, s7, s8, s9, s10, s11, s12, s13⟩; go_simp; with_reducible rfl) ?_
      refine pu 5 56 (bt 21 2623) HT_.out ?_
      refine pu 6 57 (bt 21 2687) HT_.out ?_
      refine tk 7 58 (bt 21 2815) HT_.out HW_.out hHeld rfl rfl (by rintro w' ⟨s0, s1, s2, s3, s4, s5, s6, s7, s8, s9, s10, s11, s12, s13⟩; go_simp; with_reducible rfl) ?_
      refine tk 10 61 (bt 21 3839) HT_.out HW_.out hHeld rfl rfl (by rintro w' ⟨s0, s1, s2, s3, s4, s5, s6, s7, s8, s9, s10, s11, s12, s13⟩; go_simp; with_reducible rfl) ?_
      refine pu 12 63 (bt 21 7935) HT_.out ?_
      refine pu 13 64 (bt 21 16127) HT_.out ?_
      refine tk 14 65 (bt 21 32511) HT_.out HW_.out hHeld rfl rfl (by rintro w' ⟨s0, s1, s2, s3, s4, s5, s6, s7, s8, s9, s10, s11, s12, s13⟩; go_simp; with_reducible rfl) ?_
      refine one_ (i := 8) (N := some 59) (bt 21 32767) rfl rfl (one_of HT_.out (by kernel_rfl)) (by decide) (fun K hK => ?_)
      refine Kd.R_lit_step (Kd.int .i64) _ 3 ?hg (N := 59) ?hd (xs := ([] : List Int)) (inner := []) (ok := fun _ => True) (okp := fun _ => True) ?hr ?hp (fun _ hk => hk) trivial (Below.refl _ _) (Nat.le_refl _) (by simp) ?_; (case hd => rfl); (case hg => rfl); (case hr => first | (go_simp; done) | (go_simp; rfl)); (case hp => exact (Reps.none _ _))
      intro v325 w52 ho53 hb hg_ hnew_
      clear hg_ hnew_
      rw [← Ny324.out] at ho53
      have n0_ := Aside0.mk (R_elder' (by (with_reducible repeat (first | apply R_alloc | apply R_drewN | apply R_drew)); exact HO_314002.out) (R_base ho53) hb)
      have n1_ := Aside0.mk (R_elder' (by (with_reducible repeat (first | apply R_alloc | apply R_drewN | apply R_drew)); exact HO_314003.out) (R_base ho53) hb)
      have n2_ := Aside0.mk (Kd.S_elder' (by (with_reducible repeat (first | apply S_alloc | apply S_drewN | apply S_drew)); exact HO_323000.out) (R_base ho53) hb)
      have n3_ := Aside0.mk (R_elder' (by (with_reducible repeat (first | apply R_alloc | apply R_drewN | apply R_drew)); exact HO_323004.out) (R_base ho53) hb)
      have n4_ := Aside0.mk (Kd.R_lower (R_new' (R_new' ho53 (R_lt (by (with_reducible repeat (first | apply R_alloc | apply R_drewN | apply R_drew)); exact HO_314002.out))) (R_lt (by (with_reducible repeat (first | apply R_alloc | apply R_drewN | apply R_drew)); exact HO_323004.out))) (below_size (by repeat with_reducible first | exact HB.out | apply below_alloc | apply pw_below_drewN | apply below_drew1 | refine below_set ?_ GE305.out | refine below_set ?_ GE306.out | refine below_set ?_ GE313.out | refine below_set ?_ GE315.out | refine below_set ?_ GE322.out)))
      have n5_ := Aside0.mk (blk_below (g := gb305) (o := .cells #[.int .i64 a0_0, .int .i64 a0_1, .slice A0_2 l0_2.length c0_2, .slice (some ad314) l0_3.length c0_3] 25 (0, 0)) (by (with_reducible repeat (first | refine blk_drewN ?_ _ | refine blk_drew ?_ | refine blk_alloc ?_ _)); exact BK305.out) hb)
      have n6_ := Aside0.mk (blk_below (g := gb306) (o := .cells #[.int .i64 0, .int .i64 0, .slice none 0 0, .slice none 0 0] 25 (0, 0)) (by (with_reducible repeat (first | refine blk_drewN ?_ _ | refine blk_drew ?_ | refine blk_alloc ?_ _)); exact BK306.out) hb)
      have n7_ := Aside0.mk (blk_below (g := gb313) (o := .cells #[.int .i64 a0_0, .int .i64 a0_1, .slice Ao12 y310.length co12, u314003] 25 (0, 0)) (by (with_reducible repeat (first | refine blk_drewN ?_ _ | refine blk_drew ?_ | refine blk_alloc ?_ _)); exact BK313.out) hb)
      have n8_ := Aside0.mk (blk_below (g := gb315) (o := .cells #[.slice (some ad323) ((rd_T52 l0_3 x4_1).f0).length c314_0, .slice A314_1 ((rd_T52 l0_3 x4_1).f1).length c314_1, .int .i64 ((rd_T52 l0_3 x4_1).f2.f0), .int .i64 ((rd_T52 l0_3 x4_1).f2.f1), .slice A314_4 ((rd_T52 l0_3 x4_1).f2.f2).length c314_4] 52 (0, 0)) (by (with_reducible repeat (first | refine blk_drewN ?_ _ | refine blk_drew ?_ | refine blk_alloc ?_ _)); exact BK315.out) hb)
      have n9_ := Aside0.mk (blk_below (g := gb322) (o := .cells #[u323000, .slice none 0 0, .int .i64 ((rd_T52 l0_3 x4_1).f2.f0), .int .i64 ((rd_T52 l0_3 x4_1).f2.f1), .slice Ao36 y319.length co36] 52 (0, 0)) (by (with_reducible repeat (first | refine blk_drewN ?_ _ | refine blk_drew ?_ | refine blk_alloc ?_ _)); exact BK322.out) hb)
      have n10_ := Aside0.mk (below_step (by repeat with_reducible first | exact HB.out | apply below_alloc | apply pw_below_drewN | apply below_drew1 | refine below_set ?_ GE305.out | refine below_set ?_ GE306.out | refine below_set ?_ GE313.out | refine below_set ?_ GE315.out | refine below_set ?_ GE322.out) hb)
      clear HO_314002
      clear HO_314003
      clear HO_323000
      clear HO_323004
      clear BK305
      clear BK306
      clear BK313
      clear BK315
      clear BK322
      clear HB
      have HO_314002 := n0_
      have HO_314003 := n1_
      have HO_323000 := n2_
      have HO_323004 := n3_
      have HO326 := n4_
      have BK305 := n5_
      have BK306 := n6_
      have BK313 := n7_
      have BK315 := n8_
      have BK322 := n9_
      have HB := n10_
      clear n0_ n1_ n2_ n3_ n4_ n5_ n6_ n7_ n8_ n9_ n10_
      clear hb ho53
      refine hK.out _ _ ⟨(blk_cell BK322.out 0).trans rfl, (blk_cell BK322.out 1).trans rfl, (blk_cell BK322.out 2).trans rfl, (blk_cell BK322.out 3).trans rfl, (blk_cell BK322.out 4).trans rfl, (blk_cell BK315.out 0).trans rfl, (blk_cell BK315.out 1).trans rfl, (blk_cell BK315.out 2).trans rfl, (blk_cell BK315.out 3).trans rfl, (blk_cell BK315.out 4).trans rfl, ((HB.out.cell (World.block_lt_of_cell? w _ hw323_0)).trans hw323_0), ((HB.out.cell (World.block_lt_of_cell? w _ hw323_1)).trans hw323_1), ((HB.out.cell (World.block_lt_of_cell? w _ hw327_0)).trans hw327_0), ((HB.out.cell (World.block_lt_of_cell? w _ hw327_1)).trans hw327_1)⟩ (fun hHeld => ?_)
      clear hK K
      refine norm_ (a' := ?_) ?_ ?_
      rotate_left
      · show Act.put _ (some 59) _ = _
        simp only [Act.put, List.setIfInBounds_toArray, List.set_cons_zero, List.set_cons_succ, i64_w, i32_w]
        rfl
      refine one_ (i := 15) (N := some 66) (bt 21 65535) rfl rfl (one_of HT_.out (by kernel_rfl)) (by decide) (fun K hK => ?_)
      refine Kd.R_append_rows_step (Kd.int .i64) (w0 := w) w.heap.size (by rfl) (.tmp 59) (.tmp 65) 22 3 (.int .i64 0) 8 rfl Try.underlying22 info3 rfl (by decide) (by omega) v325 y324 ((rd_T62 ((rd_T52 l0_3 x4_1).f0) x7_2).f1) _ _ _ (fun k_ => some k_ ≠ (.slice Ao12 y310.length co12 : Value).ownBlock ∧ some k_ ≠ (.slice Ao36 y319.length co36 : Value).ownBlock) (fun _ => False) rfl rfl ?aO ?aR (fun _ _ h => h) (fun _ h => h.elim) ?aF ?aB ?aS ?aL ?_
      (case aR => repeat (first | exact (C_below HR327_1.out HB.out) | (with_reducible refine C_alloc ?_ _) | (with_reducible refine C_drewN ?_ _) | (with_reducible refine C_drew ?_)))
      (case aB => exact (by repeat with_reducible first | exact HB.out | apply below_alloc | apply pw_below_drewN | apply below_drew1 | refine below_set ?_ GE305.out | refine below_set ?_ GE306.out | refine below_set ?_ GE313.out | refine below_set ?_ GE315.out | refine below_set ?_ GE322.out))
      (case aF => exact (fun k_ hk => ⟨Kd.fresh' (R_lt (by (with_reducible repeat (first | apply R_alloc | apply R_drewN | apply R_drew)); exact HO_314002.out)) k_ hk, Kd.fresh' (R_lt (by (with_reducible repeat (first | apply R_alloc | apply R_drewN | apply R_drew)); exact HO_323004.out)) k_ hk⟩))
      (case aO => exact (by (with_reducible repeat (first | apply R_alloc | apply R_drewN | apply R_drew)); exact R_mono HO326.out (fun _ hk => ⟨hk.1.2, hk.2⟩)))
      (case aS => exact (below_size (by repeat with_reducible first | exact HB.out | apply below_alloc | apply pw_below_drewN | apply below_drew1 | refine below_set ?_ GE305.out | refine below_set ?_ GE306.out | refine below_set ?_ GE313.out | refine below_set ?_ GE315.out | refine below_set ?_ GE322.out)))
      (case aL => have := LMc44.out; omega)
      intro v329 w54 ho hb hg hat
      rw [← Ny328.out] at ho
      have n0_ := Aside0.mk (Kd.R_after (ok := (fun k_ => some k_ ≠ (.slice Ao36 y319.length co36 : Value).ownBlock)) (by (with_reducible repeat (first | apply R_alloc | apply R_drewN | apply R_drew)); exact HO_314002.out) hg hat)
      have n1_ := Aside0.mk (Kd.R_after (ok := (fun k_ => some k_ ≠ (.slice Ao12 y310.length co12 : Value).ownBlock ∧ some k_ ≠ (u323000 : Value).ownBlock ∧ some k_ ≠ (.slice Ao36 y319.length co36 : Value).ownBlock ∧ k_ ≠ gb315 ∧ k_ ≠ gb322)) (by (with_reducible repeat (first | apply R_alloc | apply R_drewN | apply R_drew)); exact HO_314003.out) hg hat)
      have n2_ := Aside0.mk (Kd.S_after (ok := (fun k_ => some k_ ≠ (.slice Ao12 y310.length co12 : Value).ownBlock ∧ some k_ ≠ (.slice Ao36 y319.length co36 : Value).ownBlock)) (by (with_reducible repeat (first | apply S_alloc | apply S_drewN | apply S_drew)); exact HO_323000.out) hg hat)
      have n3_ := Aside0.mk (Kd.R_after (ok := (fun k_ => some k_ ≠ (.slice Ao12 y310.length co12 : Value).ownBlock)) (by (with_reducible repeat (first | apply R_alloc | apply R_drewN | apply R_drew)); exact HO_323004.out) hg hat)
      have n4_ := Aside0.mk (blk_grown (g := gb305) (o := .cells #[.int .i64 a0_0, .int .i64 a0_1, .slice A0_2 l0_2.length c0_2, .slice (some ad314) l0_3.length c0_3] 25 (0, 0)) (by (with_reducible repeat (first | refine blk_drewN ?_ _ | refine blk_drew ?_ | refine blk_alloc ?_ _)); exact BK305.out) hg (Kd.R_ne HO326.out BK305.out (by decide)))
      have n5_ := Aside0.mk (blk_grown (g := gb306) (o := .cells #[.int .i64 0, .int .i64 0, .slice none 0 0, .slice none 0 0] 25 (0, 0)) (by (with_reducible repeat (first | refine blk_drewN ?_ _ | refine blk_drew ?_ | refine blk_alloc ?_ _)); exact BK306.out) hg (Kd.R_ne HO326.out BK306.out (by decide)))
      have n6_ := Aside0.mk (blk_grown (g := gb313) (o := .cells #[.int .i64 a0_0, .int .i64 a0_1, .slice Ao12 y310.length co12, u314003] 25 (0, 0)) (by (with_reducible repeat (first | refine blk_drewN ?_ _ | refine blk_drew ?_ | refine blk_alloc ?_ _)); exact BK313.out) hg (Kd.R_ne HO326.out BK313.out (by decide)))
      have n7_ := Aside0.mk (blk_grown (g := gb315) (o := .cells #[.slice (some ad323) ((rd_T52 l0_3 x4_1).f0).length c314_0, .slice A314_1 ((rd_T52 l0_3 x4_1).f1).length c314_1, .int .i64 ((rd_T52 l0_3 x4_1).f2.f0), .int .i64 ((rd_T52 l0_3 x4_1).f2.f1), .slice A314_4 ((rd_T52 l0_3 x4_1).f2.f2).length c314_4] 52 (0, 0)) (by (with_reducible repeat (first | refine blk_drewN ?_ _ | refine blk_drew ?_ | refine blk_alloc ?_ _)); exact BK315.out) hg (Kd.R_ne HO326.out BK315.out (by decide)))
      have n8_ := Aside0.mk (blk_grown (g := gb322) (o := .cells #[u323000, .slice none 0 0, .int .i64 ((rd_T52 l0_3 x4_1).f2.f0), .int .i64 ((rd_T52 l0_3 x4_1).f2.f1), .slice Ao36 y319.length co36] 52 (0, 0)) (by (with_reducible repeat (first | refine blk_drewN ?_ _ | refine blk_drew ?_ | refine blk_alloc ?_ _)); exact BK322.out) hg (Kd.R_ne HO326.out BK322.out (by decide)))
      have n9_ := Aside0.mk (hb)
      have n10_ := Aside0.mk (ho)
      clear HO_314002
      clear HO_314003
      clear HO_323000
      clear HO_323004
      clear BK305
      clear BK306
      clear BK313
      clear BK315
      clear BK322
      clear HB
      clear HO326
      have HO_314002 := n0_
      have HO_314003 := n1_
      have HO_323000 := n2_
      have HO_323004 := n3_
      have BK305 := n4_
      have BK306 := n5_
      have BK313 := n6_
      have BK315 := n7_
      have BK322 := n8_
      have HB := n9_
      have HO330 := n10_
      clear n0_ n1_ n2_ n3_ n4_ n5_ n6_ n7_ n8_ n9_ n10_
      clear ho hb hg hat
      obtain ⟨Ao55, co55, eo55⟩ := Kd.R_slice HO330.out
      (first | subst eo55 | (injection eo55 with f1_ f2_ f3_; have f4_ := f1_.symm; have f5_ := f3_.symm; clear f1_ f2_ f3_; subst f4_; subst f5_))
      refine hK.out _ _ ⟨(blk_cell BK322.out 0).trans rfl, (blk_cell BK322.out 1).trans rfl, (blk_cell BK322.out 2).trans rfl, (blk_cell BK322.out 3).trans rfl, (blk_cell BK322.out 4).trans rfl, (blk_cell BK315.out 0).trans rfl, (blk_cell BK315.out 1).trans rfl, (blk_cell BK315.out 2).trans rfl, (blk_cell BK315.out 3).trans rfl, (blk_cell BK315.out 4).trans rfl, ((HB.out.cell (World.block_lt_of_cell? w _ hw323_0)).trans hw323_0), ((HB.out.cell (World.block_lt_of_cell? w _ hw323_1)).trans hw323_1), ((HB.out.cell (World.block_lt_of_cell? w _ hw327_0)).trans hw327_0), ((HB.out.cell (World.block_lt_of_cell? w _ hw327_1)).trans hw327_1)⟩ (fun hHeld => ?_)
      clear hK K
      refine norm_ (a' := ?_) ?_ ?_
      rotate_left
      · show Act.put _ (some 66) _ = _
        simp only [Act.put, List.setIfInBounds_toArray, List.set_cons_zero, List.set_cons_succ, i64_w, i32_w]
        rfl
      refine pu 16 67 (bt 21 131071) HT_.out ?_
      refine one_ (i := 17) (N := some 68) (bt 21 262143) rfl rfl (one_of HT_.out (by kernel_rfl)) (by decide) (fun K hK => ?_)
      refine value_ (w1 := ?_) (v := ?_) (by rfl) rfl ?_ ?_
      rotate_left 2
      · go_simp
        constructor
        · rfl
        rfl
      refine hK.out _ _ ⟨(blk_cell (blk_alloc BK322.out _) 0).trans rfl, (blk_cell (blk_alloc BK322.out _) 1).trans rfl, (blk_cell (blk_alloc BK322.out _) 2).trans rfl, (blk_cell (blk_alloc BK322.out _) 3).trans rfl, (blk_cell (blk_alloc BK322.out _) 4).trans rfl, (blk_cell (blk_alloc BK315.out _) 0).trans rfl, (blk_cell (blk_alloc BK315.out _) 1).trans rfl, (blk_cell (blk_alloc BK315.out _) 2).trans rfl, (blk_cell (blk_alloc BK315.out _) 3).trans rfl, (blk_cell (blk_alloc BK315.out _) 4).trans rfl, (World.cell?_alloc_lt _ _ _ (World.block_lt_of_cell? _ _ (((HB.out.cell (World.block_lt_of_cell? w _ hw323_0)).trans hw323_0)))).trans (((HB.out.cell (World.block_lt_of_cell? w _ hw323_0)).trans hw323_0)), (World.cell?_alloc_lt _ _ _ (World.block_lt_of_cell? _ _ (((HB.out.cell (World.block_lt_of_cell? w _ hw323_1)).trans hw323_1)))).trans (((HB.out.cell (World.block_lt_of_cell? w _ hw323_1)).trans hw323_1)), (World.cell?_alloc_lt _ _ _ (World.block_lt_of_cell? _ _ (((HB.out.cell (World.block_lt_of_cell? w _ hw327_0)).trans hw327_0)))).trans (((HB.out.cell (World.block_lt_of_cell? w _ hw327_0)).trans hw327_0)), (World.cell?_alloc_lt _ _ _ (World.block_lt_of_cell? _ _ (((HB.out.cell (World.block_lt_of_cell? w _ hw327_1)).trans hw327_1)))).trans (((HB.out.cell (World.block_lt_of_cell? w _ hw327_1)).trans hw327_1))⟩ (fun hHeld => ?_)
      clear hK K
      refine norm_ (a' := ?_) ?_ ?_
      rotate_left
      · show Act.put _ (some 68) _ = _
        simp only [Act.put, List.setIfInBounds_toArray, List.set_cons_zero, List.set_cons_succ, i64_w, i32_w]
        rfl
      refine one_ (i := 18) (N := some 69) (bt 21 524287) rfl rfl (one_of HT_.out (by kernel_rfl)) (by decide) (fun K hK => ?_)
      refine Kd.S_append_step k62 (w0 := w) w.heap.size (by rfl) (.tmp 52) (.tmp 68) 49 62 (.agg #[(.int .i64 0), (.slice none 0 0)]) 32 rfl Try.underlying49 info62 rfl (by decide) (by omega) u323000 x323000_2 (⟨(rd_T62 ((rd_T52 l0_3 x4_1).f0) x7_2).f0, y328⟩ : S62) [.int .i64 ((rd_T62 ((rd_T52 l0_3 x4_1).f0) x7_2).f0), .slice Ao55 y328.length co55] (fun k_ => some k_ ≠ (.slice Ao12 y310.length co12 : Value).ownBlock ∧ some k_ ≠ (.slice Ao36 y319.length co36 : Value).ownBlock) (fun k_ => some k_ = (.slice Ao55 y328.length co55 : Value).ownBlock) rfl rfl ?aP (fun k_ hk_ => ((R_mono (ok' := fun k_ => ((fun k_ => some k_ ≠ (.slice Ao12 y310.length co12 : Value).ownBlock ∧ some k_ ≠ (.slice Ao36 y319.length co36 : Value).ownBlock)) k_ ∧ some k_ ≠ (u323000 : Value).ownBlock) (Kd.R_apart' (HO330.out) (Kd.S_typed HO_323000.out) (by decide)) (fun k_ hk => ⟨⟨hk.1.1, hk.1.2⟩, hk.2⟩))).1 k_ hk_.symm) ?aF ?aO ?aB ?aS ?aL ?_
      (case aP => exact k62_mkM _ _ _ (⟨(rd_T62 ((rd_T52 l0_3 x4_1).f0) x7_2).f0, y328⟩ : S62) (R_mono (Kd.R_tight rfl (R_mono (ok' := fun k_ => ((fun k_ => some k_ ≠ (.slice Ao12 y310.length co12 : Value).ownBlock ∧ some k_ ≠ (.slice Ao36 y319.length co36 : Value).ownBlock)) k_ ∧ some k_ ≠ (u323000 : Value).ownBlock) (Kd.R_apart' (HO330.out) (Kd.S_typed HO_323000.out) (by decide)) (fun k_ hk => ⟨⟨hk.1.1, hk.1.2⟩, hk.2⟩))) (fun _ h_ => h_)))
      (case aB => exact (by repeat with_reducible first | exact HB.out | apply below_alloc | apply pw_below_drewN | apply below_drew1 | refine below_set ?_ GE305.out | refine below_set ?_ GE306.out | refine below_set ?_ GE313.out | refine below_set ?_ GE315.out | refine below_set ?_ GE322.out))
      (case aF => exact (fun k_ hk => ⟨Kd.fresh' (R_lt (by (with_reducible repeat (first | apply R_alloc | apply R_drewN | apply R_drew)); exact HO_314002.out)) k_ hk, Kd.fresh' (R_lt (by (with_reducible repeat (first | apply R_alloc | apply R_drewN | apply R_drew)); exact HO_323004.out)) k_ hk⟩))
      (case aO => exact (by (with_reducible repeat (first | apply S_alloc | apply S_drewN | apply S_drew)); exact S_mono HO_323000.out (fun k_ hk => ⟨⟨hk.1.1, hk.1.2⟩, fun e_ => hk.2 e_⟩)))
      (case aS => exact (below_size (by repeat with_reducible first | exact HB.out | apply below_alloc | apply pw_below_drewN | apply below_drew1 | refine below_set ?_ GE305.out | refine below_set ?_ GE306.out | refine below_set ?_ GE313.out | refine below_set ?_ GE315.out | refine below_set ?_ GE322.out)))
      (case aL => have := LMc45.out; omega)
      intro v332 w56 ho hb hg hat
      rw [← Ny331.out] at ho
      have n0_ := Aside0.mk (Kd.R_over' (by (with_reducible repeat (first | apply R_alloc | apply R_drewN | apply R_drew)); exact HO_314002.out) (Kd.S_typed (by (with_reducible repeat (first | apply S_alloc | apply S_drewN | apply S_drew)); exact HO_323000.out)) (by decide) hg)
      have n1_ := Aside0.mk (Kd.R_after (ok := (fun k_ => some k_ ≠ (.slice Ao12 y310.length co12 : Value).ownBlock ∧ some k_ ≠ (.slice Ao36 y319.length co36 : Value).ownBlock ∧ some k_ ≠ (.slice Ao55 y328.length co55 : Value).ownBlock ∧ k_ ≠ gb315 ∧ k_ ≠ gb322)) (by (with_reducible repeat (first | apply R_alloc | apply R_drewN | apply R_drew)); exact R_mono HO_314003.out (fun _ hk => ⟨⟨hk.1.1, ⟨hk.1.2.2.1, ⟨hk.2, ⟨hk.1.2.2.2.1, hk.1.2.2.2.2⟩⟩⟩⟩, hk.1.2.1⟩)) hg hat)
      have n2_ := Aside0.mk (Kd.R_over' (by (with_reducible repeat (first | apply R_alloc | apply R_drewN | apply R_drew)); exact HO_323004.out) (Kd.S_typed (by (with_reducible repeat (first | apply S_alloc | apply S_drewN | apply S_drew)); exact HO_323000.out)) (by decide) hg)
      have n3_ := Aside0.mk (blk_grown (g := gb305) (o := .cells #[.int .i64 a0_0, .int .i64 a0_1, .slice A0_2 l0_2.length c0_2, .slice (some ad314) l0_3.length c0_3] 25 (0, 0)) (by (with_reducible repeat (first | refine blk_drewN ?_ _ | refine blk_drew ?_ | refine blk_alloc ?_ _)); exact BK305.out) hg (Kd.S_ne HO_323000.out BK305.out (by decide)))
      have n4_ := Aside0.mk (blk_grown (g := gb306) (o := .cells #[.int .i64 0, .int .i64 0, .slice none 0 0, .slice none 0 0] 25 (0, 0)) (by (with_reducible repeat (first | refine blk_drewN ?_ _ | refine blk_drew ?_ | refine blk_alloc ?_ _)); exact BK306.out) hg (Kd.S_ne HO_323000.out BK306.out (by decide)))
      have n5_ := Aside0.mk (blk_grown (g := gb313) (o := .cells #[.int .i64 a0_0, .int .i64 a0_1, .slice Ao12 y310.length co12, u314003] 25 (0, 0)) (by (with_reducible repeat (first | refine blk_drewN ?_ _ | refine blk_drew ?_ | refine blk_alloc ?_ _)); exact BK313.out) hg (Kd.S_ne HO_323000.out BK313.out (by decide)))
      have n6_ := Aside0.mk (blk_grown (g := gb315) (o := .cells #[.slice (some ad323) ((rd_T52 l0_3 x4_1).f0).length c314_0, .slice A314_1 ((rd_T52 l0_3 x4_1).f1).length c314_1, .int .i64 ((rd_T52 l0_3 x4_1).f2.f0), .int .i64 ((rd_T52 l0_3 x4_1).f2.f1), .slice A314_4 ((rd_T52 l0_3 x4_1).f2.f2).length c314_4] 52 (0, 0)) (by (with_reducible repeat (first | refine blk_drewN ?_ _ | refine blk_drew ?_ | refine blk_alloc ?_ _)); exact BK315.out) hg (Kd.S_ne HO_323000.out BK315.out (by decide)))
      have n7_ := Aside0.mk (blk_grown (g := gb322) (o := .cells #[u323000, .slice none 0 0, .int .i64 ((rd_T52 l0_3 x4_1).f2.f0), .int .i64 ((rd_T52 l0_3 x4_1).f2.f1), .slice Ao36 y319.length co36] 52 (0, 0)) (by (with_reducible repeat (first | refine blk_drewN ?_ _ | refine blk_drew ?_ | refine blk_alloc ?_ _)); exact BK322.out) hg (Kd.S_ne HO_323000.out BK322.out (by decide)))
      have n8_ := Aside0.mk (hb)
      have n9_ := Aside0.mk (ho)
      clear HO_314002
      clear HO_314003
      clear HO_323004
      clear BK305
      clear BK306
      clear BK313
      clear BK315
      clear BK322
      clear HB
      clear HO_323000
      clear HO330
      have HO_314002 := n0_
      have HO_314003 := n1_
      have HO_323004 := n2_
      have BK305 := n3_
      have BK306 := n4_
      have BK313 := n5_
      have BK315 := n6_
      have BK322 := n7_
      have HB := n8_
      have HO333 := n9_
      clear n0_ n1_ n2_ n3_ n4_ n5_ n6_ n7_ n8_ n9_
      clear ho hb hg hat
      obtain ⟨Ao57, co57, eo57⟩ := Kd.S_slice HO333.out
      (first | subst eo57 | (injection eo57 with f1_ f2_ f3_; have f4_ := f1_.symm; have f5_ := f3_.symm; clear f1_ f2_ f3_; subst f4_; subst f5_))
      refine hK.out _ _ ⟨(blk_cell BK322.out 0).trans rfl, (blk_cell BK322.out 1).trans rfl, (blk_cell BK322.out 2).trans rfl, (blk_cell BK322.out 3).trans rfl, (blk_cell BK322.out 4).trans rfl, (blk_cell BK315.out 0).trans rfl, (blk_cell BK315.out 1).trans rfl, (blk_cell BK315.out 2).trans rfl, (blk_cell BK315.out 3).trans rfl, (blk_cell BK315.out 4).trans rfl, ((HB.out.cell (World.block_lt_of_cell? w _ hw323_0)).trans hw323_0), ((HB.out.cell (World.block_lt_of_cell? w _ hw323_1)).trans hw323_1), ((HB.out.cell (World.block_lt_of_cell? w _ hw327_0)).trans hw327_0), ((HB.out.cell (World.block_lt_of_cell? w _ hw327_1)).trans hw327_1)⟩ (fun hHeld => ?_)
      clear hK K
      refine norm_ (a' := ?_) ?_ ?_
      rotate_left
      · show Act.put _ (some 69) _ = _
        simp only [Act.put, List.setIfInBounds_toArray, List.set_cons_zero, List.set_cons_succ, i64_w, i32_w]
        rfl
      refine pu 19 70 (bt 21 1048575) HT_.out ?_
      refine last_ (i := 20) (N := none) (bt 21 2097151) rfl rfl (one_of HT_.out (by kernel_rfl)) (by decide) (fun K hK => ?_)
      have hs58 : w56.cell? ⟨gb322, 0, none⟩ = some (u323000) := (blk_cell BK322.out 0).trans rfl
      have hfs58 := blk_frozen BK322.out 0
      have hns58_0 := NB305_322.out
      have hns58_1 := NB306_322.out
      have hns58_2 := NB313_322.out
      have hns58_3 := NB315_322.out
      have hms58_0 := NB322_305.out
      have hms58_1 := NB322_306.out
      have hms58_2 := NB322_313.out
      have hms58_3 := NB322_315.out
      refine skip_ (w1 := ?_) (by rfl) rfl ?_ ?_
      rotate_left
      · go_simp
        rfl
      refine hK.out _ _ ?_
      clear hK K
      refine done_ (done_of HT_.out (by kernel_rfl)) ?_
      try go_wp2
      go_roundg k2
      case measure => have := HK1.out; have := HK2.out; omega
      case rel => exact ⟨(wrap64 (x7_2 + 1)), (y331), (.slice Ao57 y331.length co57), (by first | rfl | (simp; done) | (simp [*]; done)), H', ⟨by have := HK1.out; have := HK2.out; omega⟩, ⟨by (with_reducible repeat (first | apply R_alloc | apply R_drewN | apply R_drew)); exact R_mono (Kd.R_far (p := ⟨gb322, 0, none⟩) (Kd.R_types HO_314002.out BK322.out (by decide)) (fun _ hk => hk.2) (.slice Ao57 y331.length co57)) (fun _ hk => hk.1.1)⟩, ⟨by (with_reducible repeat (first | apply R_alloc | apply R_drewN | apply R_drew)); exact R_mono (Kd.R_far (p := ⟨gb322, 0, none⟩) (R_mono HO_314003.out (fun k_ hk => (⟨hk, hk.1.2.2.2.2⟩ : _ ∧ k_ ≠ gb322))) (fun _ hk => hk.2) (.slice Ao57 y331.length co57)) (fun _ hk => ⟨hk.1.1.1, ⟨hk.1.2, ⟨hk.1.1.2.1, ⟨hk.1.1.2.2.2.1, hk.1.1.2.2.2.2⟩⟩⟩⟩)⟩, ⟨by (with_reducible repeat (first | apply S_alloc | apply S_drewN | apply S_drew)); exact S_mono (Kd.S_far (p := ⟨gb322, 0, none⟩) (Kd.S_types HO333.out BK322.out (by decide)) (fun _ hk => hk.2) (.slice Ao57 y331.length co57)) (fun _ hk => ⟨hk.1.1, hk.1.2⟩)⟩, ⟨by (with_reducible repeat (first | apply R_alloc | apply R_drewN | apply R_drew)); exact R_mono (Kd.R_far (p := ⟨gb322, 0, none⟩) (Kd.R_types HO_323004.out BK322.out (by decide)) (fun _ hk => hk.2) (.slice Ao57 y331.length co57)) (fun _ hk => hk.1.1)⟩, ⟨by (with_reducible repeat (first | refine blk_drewN ?_ _ | refine blk_drew ?_ | refine blk_alloc ?_ _)); refine blk_far ?_ NB305_322.out _; (with_reducible repeat (first | refine blk_drewN ?_ _ | refine blk_drew ?_ | refine blk_alloc ?_ _)); exact BK305.out⟩, ⟨by (with_reducible repeat (first | refine blk_drewN ?_ _ | refine blk_drew ?_ | refine blk_alloc ?_ _)); refine blk_far ?_ NB306_322.out _; (with_reducible repeat (first | refine blk_drewN ?_ _ | refine blk_drew ?_ | refine blk_alloc ?_ _)); exact BK306.out⟩, ⟨by (with_reducible repeat (first | refine blk_drewN ?_ _ | refine blk_drew ?_ | refine blk_alloc ?_ _)); refine blk_far ?_ NB313_322.out _; (with_reducible repeat (first | refine blk_drewN ?_ _ | refine blk_drew ?_ | refine blk_alloc ?_ _)); exact BK313.out⟩, ⟨by (with_reducible repeat (first | refine blk_drewN ?_ _ | refine blk_drew ?_ | refine blk_alloc ?_ _)); refine blk_far ?_ NB315_322.out _; (with_reducible repeat (first | refine blk_drewN ?_ _ | refine blk_drew ?_ | refine blk_alloc ?_ _)); exact BK315.out⟩, ⟨by (with_reducible repeat (first | refine blk_drewN ?_ _ | refine blk_drew ?_ | refine blk_alloc ?_ _)); refine blk_put (cs := #[u323000, .slice none 0 0, .int .i64 ((rd_T52 l0_3 x4_1).f2.f0), .int .i64 ((rd_T52 l0_3 x4_1).f2.f1), .slice Ao36 y319.length co36]) ?_ 0 _ rfl; (with_reducible repeat (first | refine blk_drewN ?_ _ | refine blk_drew ?_ | refine blk_alloc ?_ _)); exact BK322.out⟩, ⟨by repeat (first | (with_reducible first | exact HB.out | apply below_alloc | apply pw_below_drewN | apply below_drew1 | refine below_set ?_ GE305.out | refine below_set ?_ GE306.out | refine below_set ?_ GE313.out | refine below_set ?_ GE315.out | refine below_set ?_ GE322.out) | exact HB.out)⟩⟩
    rw [if_neg c42] at H
    have c42b0 : decide (x7_2 < (((rd_T52 l0_3 x4_1).f0).length : Int)) = false := decide_eq_false c42
    clear c42
    have H' := Aside0.mk H
    clear H
    have hnb59 := NB315_305.out
    have hnc59 := NB305_315.out
    have hnb60 := NB315_306.out
    have hnc60 := NB306_315.out
    have hnb61 := NB315_313.out
    have hnc61 := NB313_315.out
    have hnb62 := NB315_322.out
    have hnc62 := NB322_315.out
    have hcz63_0 : wr.cell? ⟨gb315, 0, none⟩ = some (.slice A314_0 ((rd_T52 l0_3 x4_1).f0).length c314_0) := (blk_cell BK315.out 0).trans rfl
    have hcz63_1 : wr.cell? ⟨gb315, 1, none⟩ = some (.slice A314_1 ((rd_T52 l0_3 x4_1).f1).length c314_1) := (blk_cell BK315.out 1).trans rfl
    have hcz63_2 : wr.cell? ⟨gb315, 2, none⟩ = some (.int .i64 ((rd_T52 l0_3 x4_1).f2.f0)) := (blk_cell BK315.out 2).trans rfl
    have hcz63_3 : wr.cell? ⟨gb315, 3, none⟩ = some (.int .i64 ((rd_T52 l0_3 x4_1).f2.f1)) := (blk_cell BK315.out 3).trans rfl
    have hcz63_4 : wr.cell? ⟨gb315, 4, none⟩ = some (.slice A314_4 ((rd_T52 l0_3 x4_1).f2.f2).length c314_4) := (blk_cell BK315.out 4).trans rfl
    have hfz63_0 := blk_frozen BK315.out 0
    have hfz63_1 := blk_frozen BK315.out 1
    have hfz63_2 := blk_frozen BK315.out 2
    have hfz63_3 := blk_frozen BK315.out 3
    have hfz63_4 := blk_frozen BK315.out 4
    go_wp2
    go_loopg [8] k2 (fun kq v8 w' => ∃ (x8_3 : Int) (x323001_3 : List (S64)) (u323001 : Value), v8 = .int .i64 x8_3 ∧ Aside0 (fettleref02_CopyFunc.l2 kq x4_1 x8_3 a0_0 a0_1 l0_2 l0_3 a0_0 a0_1 y310 x314003_1 ((rd_T52 l0_3 x4_1).f0) ((rd_T52 l0_3 x4_1).f1) ((rd_T52 l0_3 x4_1).f2.f0) ((rd_T52 l0_3 x4_1).f2.f1) ((rd_T52 l0_3 x4_1).f2.f2) x323000_2 x323001_3 ((rd_T52 l0_3 x4_1).f2.f0) ((rd_T52 l0_3 x4_1).f2.f1) y319 = some (r1, r2, r3, r4)) ∧ Aside0 (kq ≤ k2) ∧ Aside0 (Kd.R (Kd.int .i64) 3 w' w.heap.size (fun k_ => some k_ ≠ ((.slice Ao36 y319.length co36) : Value).ownBlock) (.slice Ao12 y310.length co12) y310) ∧ Aside0 (Kd.R k52 52 w' w.heap.size (fun k_ => some k_ ≠ ((.slice Ao12 y310.length co12) : Value).ownBlock ∧ some k_ ≠ (u323000 : Value).ownBlock ∧ some k_ ≠ (u323001 : Value).ownBlock ∧ some k_ ≠ ((.slice Ao36 y319.length co36) : Value).ownBlock ∧ k_ ≠ gb315 ∧ k_ ≠ gb322) u314003 x314003_1) ∧ Aside0 (Kd.S k62 62 w' w.heap.size (fun k_ => some k_ ≠ ((.slice Ao12 y310.length co12) : Value).ownBlock ∧ some k_ ≠ ((.slice Ao36 y319.length co36) : Value).ownBlock) u323000 x323000_2) ∧ Aside0 (Kd.S k64 64 w' w.heap.size (fun k_ => some k_ ≠ ((.slice Ao12 y310.length co12) : Value).ownBlock ∧ some k_ ≠ ((.slice Ao36 y319.length co36) : Value).ownBlock) u323001 x323001_3) ∧ Aside0 (Kd.R (Kd.int .i64) 3 w' w.heap.size (fun k_ => some k_ ≠ ((.slice Ao12 y310.length co12) : Value).ownBlock) (.slice Ao36 y319.length co36) y319) ∧ Aside0 (w'.heap[gb305]? = some (.cells #[.int .i64 a0_0, .int .i64 a0_1, (.slice A0_2 l0_2.length c0_2), (.slice (some ad314) l0_3.length c0_3)] 25 (0, 0))) ∧ Aside0 (w'.heap[gb306]? = some (.cells #[.int .i64 0, .int .i64 0, (.slice none 0 0), (.slice none 0 0)] 25 (0, 0))) ∧ Aside0 (w'.heap[gb313]? = some (.cells #[.int .i64 a0_0, .int .i64 a0_1, (.slice Ao12 y310.length co12), u314003] 25 (0, 0))) ∧ Aside0 (w'.heap[gb315]? = some (.cells #[(.slice A314_0 ((rd_T52 l0_3 x4_1).f0).length c314_0), (.slice A314_1 ((rd_T52 l0_3 x4_1).f1).length c314_1), .int .i64 ((rd_T52 l0_3 x4_1).f2.f0), .int .i64 ((rd_T52 l0_3 x4_1).f2.f1), (.slice A314_4 ((rd_T52 l0_3 x4_1).f2.f2).length c314_4)] 52 (0, 0))) ∧ Aside0 (w'.heap[gb322]? = some (.cells #[u323000, u323001, .int .i64 ((rd_T52 l0_3 x4_1).f2.f0), .int .i64 ((rd_T52 l0_3 x4_1).f2.f1), (.slice Ao36 y319.length co36)] 52 (0, 0))) ∧ Aside0 (Below w.heap.size w w'))
    case atStart => exact ⟨(0), (([] : List (S64))), (.slice none 0 0), (by first | rfl | (simp; done) | (simp [*]; done)), H', ⟨Nat.le_refl _⟩, ⟨by (with_reducible repeat (first | apply R_alloc | apply R_drewN | apply R_drew)); exact HO_314002.out⟩, ⟨by (with_reducible repeat (first | apply R_alloc | apply R_drewN | apply R_drew)); exact R_mono HO_314003.out (fun _ hk => ⟨hk.1, ⟨hk.2.1, ⟨(by simp [Value.ownBlock]), ⟨hk.2.2.1, ⟨hk.2.2.2.1, hk.2.2.2.2⟩⟩⟩⟩⟩)⟩, ⟨by (with_reducible repeat (first | apply S_alloc | apply S_drewN | apply S_drew)); exact HO_323000.out⟩, ⟨by first | exact Kd.S_nil _ _ _ _ _ | exact Kd.N_nil _ _ _ _ _ | exact Kd.V_nil _ _ _ _ _ | exact Kd.Q_nil _ _ _ _ _ | exact Kd.R_nil _ _ _ _ _⟩, ⟨by (with_reducible repeat (first | apply R_alloc | apply R_drewN | apply R_drew)); exact HO_323004.out⟩, ⟨by (with_reducible repeat (first | refine blk_drewN ?_ _ | refine blk_drew ?_ | refine blk_alloc ?_ _)); exact BK305.out⟩, ⟨by (with_reducible repeat (first | refine blk_drewN ?_ _ | refine blk_drew ?_ | refine blk_alloc ?_ _)); exact BK306.out⟩, ⟨by (with_reducible repeat (first | refine blk_drewN ?_ _ | refine blk_drew ?_ | refine blk_alloc ?_ _)); exact BK313.out⟩, ⟨by (with_reducible repeat (first | refine blk_drewN ?_ _ | refine blk_drew ?_ | refine blk_alloc ?_ _)); exact BK315.out⟩, ⟨by (with_reducible repeat (first | refine blk_drewN ?_ _ | refine blk_drew ?_ | refine blk_alloc ?_ _)); exact BK322.out⟩, ⟨by repeat (first | (with_reducible first | exact HB.out | apply below_alloc | apply pw_below_drewN | apply below_drew1 | refine below_set ?_ GE305.out | refine below_set ?_ GE306.out | refine below_set ?_ GE313.out | refine below_set ?_ GE315.out | refine below_set ?_ GE322.out) | exact HB.out)⟩⟩
    clear H'
    try clear c1
    try clear p2
    try clear c3
    try clear p3
    try clear q3
    try clear hx3
    try clear c4
    try clear c5
    try clear c6
    try clear p6
    try clear c19
    try clear c31
    try clear c32
    try clear p32
    try clear q32
    try clear hx32
    try clear c42
    try clear c42b0
    try clear c43
    try clear c43b0
    try clear c44
    try clear c45
    try clear c46
    try clear c47
    try clear c48
    try clear c49
    try clear c59
    try clear c60
    try clear c61
    try clear c62
    try clear hcz50_0
    try clear hcz50_1
    try clear hcz50_2
    try clear hcz50_3
    try clear hcz50_4
    try clear hcz63_0
    try clear hcz63_1
    try clear hcz63_2
    try clear hcz63_3
    try clear hcz63_4
    try clear hfz50_0
    try clear hfz50_1
    try clear hfz50_2
    try clear hfz50_3
    try clear hfz50_4
    try clear hfz63_0
    try clear hfz63_1
    try clear hfz63_2
    try clear hfz63_3
    try clear hfz63_4
    try clear hx323_0
    try clear hx323_1
    try clear hx327_0
    try clear hx327_1
    try clear p2
    try clear p323
    try clear p327
    try clear q323
    try clear q327
    obtain ⟨x8_3, x323001_3, u323001, rfl, HA, HK3, HO_314002, HO_314003, HO_323000, HO_323001, HO_323004, BK305, BK306, BK313, BK315, BK322, HB⟩ := hrel
    rcases gk with _ | k3
    · exact absurd HA.out (by simp [fettleref02_CopyFunc.l2])
    have H := HA.out
    clear HA
    simp only [fettleref02_CopyFunc.l2] at H
    by_cases c64 : x8_3 < (((rd_T52 l0_3 x4_1).f1).length : Int)
    · rw [if_pos c64] at H
      have c64b0 : decide (x8_3 < (((rd_T52 l0_3 x4_1).f1).length : Int)) = true := decide_eq_true c64
      clear c64
      by_cases c65 : 0 ≤ x8_3
      rotate_left
      · rw [if_neg c65] at H
        exact absurd H (by simp)
      rw [if_pos c65] at H
      have c65b0 : decide (0 ≤ x8_3) = true := decide_eq_true c65
      clear c65
      obtain ⟨y336, hy336⟩ : ∃ y_ : List Int, y_ = (([] : List Int)) := ⟨_, rfl⟩
      replace H : (if y336.length + ((rd_T64 ((rd_T52 l0_3 x4_1).f1) x8_3).f2).length < 17592186044416 then (if x323001_3.length < 2513169434916 then (fettleref02_CopyFunc.l2 k3 x4_1 (wrap64 (x8_3 + 1)) a0_0 a0_1 l0_2 l0_3 a0_0 a0_1 y310 x314003_1 ((rd_T52 l0_3 x4_1).f0) ((rd_T52 l0_3 x4_1).f1) ((rd_T52 l0_3 x4_1).f2.f0) ((rd_T52 l0_3 x4_1).f2.f1) ((rd_T52 l0_3 x4_1).f2.f2) x323000_2 (x323001_3 ++ [(⟨(rd_T64 ((rd_T52 l0_3 x4_1).f1) x8_3).f0, (rd_T64 ((rd_T52 l0_3 x4_1).f1) x8_3).f1, (y336 ++ ((rd_T64 ((rd_T52 l0_3 x4_1).f1) x8_3).f2)), (rd_T64 ((rd_T52 l0_3 x4_1).f1) x8_3).f3, (rd_T64 ((rd_T52 l0_3 x4_1).f1) x8_3).f4⟩ : S64)]) ((rd_T52 l0_3 x4_1).f2.f0) ((rd_T52 l0_3 x4_1).f2.f1) y319) else (none)) else (none)) = some (r1, r2, r3, r4) := by first | (rw [hy336]; with_reducible exact H) | (have H2_ := (Option.bind_some _ _).symm.trans H; rw [hy336]; with_reducible exact H2_) | exact H
      have Ny336 := Aside0.mk hy336
      clear hy336
      by_cases c66 : y336.length + ((rd_T64 ((rd_T52 l0_3 x4_1).f1) x8_3).f2).length < 17592186044416
      rotate_left
      · rw [if_neg c66] at H
        exact absurd H (by simp)
      rw [if_pos c66] at H
      have LMc66 := Aside0.mk c66
      clear c66
      obtain ⟨y339, hy339⟩ : ∃ y_ : List Int, y_ = (y336 ++ ((rd_T64 ((rd_T52 l0_3 x4_1).f1) x8_3).f2)) := ⟨_, rfl⟩
      replace H : (if x323001_3.length < 2513169434916 then (fettleref02_CopyFunc.l2 k3 x4_1 (wrap64 (x8_3 + 1)) a0_0 a0_1 l0_2 l0_3 a0_0 a0_1 y310 x314003_1 ((rd_T52 l0_3 x4_1).f0) ((rd_T52 l0_3 x4_1).f1) ((rd_T52 l0_3 x4_1).f2.f0) ((rd_T52 l0_3 x4_1).f2.f1) ((rd_T52 l0_3 x4_1).f2.f2) x323000_2 (x323001_3 ++ [(⟨(rd_T64 ((rd_T52 l0_3 x4_1).f1) x8_3).f0, (rd_T64 ((rd_T52 l0_3 x4_1).f1) x8_3).f1, y339, (rd_T64 ((rd_T52 l0_3 x4_1).f1) x8_3).f3, (rd_T64 ((rd_T52 l0_3 x4_1).f1) x8_3).f4⟩ : S64)]) ((rd_T52 l0_3 x4_1).f2.f0) ((rd_T52 l0_3 x4_1).f2.f1) y319) else (none)) = some (r1, r2, r3, r4) := by first | (rw [hy339]; with_reducible exact H) | (have H2_ := (Option.bind_some _ _).symm.trans H; rw [hy339]; with_reducible exact H2_) | exact H
      have Ny339 := Aside0.mk hy339
      clear hy339
      by_cases c67 : x323001_3.length < 2513169434916
      rotate_left
      · rw [if_neg c67] at H
        exact absurd H (by simp)
      rw [if_pos c67] at H
      have LMc67 := Aside0.mk c67
      clear c67
      obtain ⟨y342, hy342⟩ : ∃ y_ : List (S64), y_ = (x323001_3 ++ [(⟨(rd_T64 ((rd_T52 l0_3 x4_1).f1) x8_3).f0, (rd_T64 ((rd_T52 l0_3 x4_1).f1) x8_3).f1, y339, (rd_T64 ((rd_T52 l0_3 x4_1).f1) x8_3).f3, (rd_T64 ((rd_T52 l0_3 x4_1).f1) x8_3).f4⟩ : S64)]) := ⟨_, rfl⟩
      replace H : (fettleref02_CopyFunc.l2 k3 x4_1 (wrap64 (x8_3 + 1)) a0_0 a0_1 l0_2 l0_3 a0_0 a0_1 y310 x314003_1 ((rd_T52 l0_3 x4_1).f0) ((rd_T52 l0_3 x4_1).f1) ((rd_T52 l0_3 x4_1).f2.f0) ((rd_T52 l0_3 x4_1).f2.f1) ((rd_T52 l0_3 x4_1).f2.f2) x323000_2 y342 ((rd_T52 l0_3 x4_1).f2.f0) ((rd_T52 l0_3 x4_1).f2.f1) y319) = some (r1, r2, r3, r4) := by first | (rw [hy342]; with_reducible exact H) | (have H2_ := (Option.bind_some _ _).symm.trans H; rw [hy342]; with_reducible exact H2_) | exact H
      have Ny342 := Aside0.mk hy342
      clear hy342
      have H' := Aside0.mk H
      clear H
      have hnb68 := NB315_305.out
      have hnc68 := NB305_315.out
      have hnb69 := NB315_306.out
      have hnc69 := NB306_315.out
      have hnb70 := NB315_313.out
      have hnc70 := NB313_315.out
      have hnb71 := NB315_322.out
      have hnc71 := NB322_315.out
      have hcz72_0 : wr.cell? ⟨gb315, 0, none⟩ = some (.slice A314_0 ((rd_T52 l0_3 x4_1).f0).length c314_0) := (blk_cell BK315.out 0).trans rfl
      have hcz72_1 : wr.cell? ⟨gb315, 1, none⟩ = some (.slice A314_1 ((rd_T52 l0_3 x4_1).f1).length c314_1) := (blk_cell BK315.out 1).trans rfl
      have hcz72_2 : wr.cell? ⟨gb315, 2, none⟩ = some (.int .i64 ((rd_T52 l0_3 x4_1).f2.f0)) := (blk_cell BK315.out 2).trans rfl
      have hcz72_3 : wr.cell? ⟨gb315, 3, none⟩ = some (.int .i64 ((rd_T52 l0_3 x4_1).f2.f1)) := (blk_cell BK315.out 3).trans rfl
      have hcz72_4 : wr.cell? ⟨gb315, 4, none⟩ = some (.slice A314_4 ((rd_T52 l0_3 x4_1).f2.f2).length c314_4) := (blk_cell BK315.out 4).trans rfl
      have hfz72_0 := blk_frozen BK315.out 0
      have hfz72_1 := blk_frozen BK315.out 1
      have hfz72_2 := blk_frozen BK315.out 2
      have hfz72_3 := blk_frozen BK315.out 3
      have hfz72_4 := blk_frozen BK315.out 4
      have p334 : 0 ≤ (x8_3 : Int) := of_decide_eq_true (by with_reducible assumption)
      have q334 : x8_3 < (((rd_T52 l0_3 x4_1).f1).length : Int) := of_decide_eq_true (by with_reducible assumption)
      obtain ⟨ad334, A334_2, c334_2, e334, hx334_0, hx334_1, hx334_2, hx334_3, hx334_4, hl334_2, hi334_2⟩ := at_T64 HR314_1.out x8_3 p334 q334
      cases e334
      replace hx334_0 := (HB.out.cell (World.block_lt_of_cell? w _ hx334_0)).trans hx334_0
      replace hx334_1 := (HB.out.cell (World.block_lt_of_cell? w _ hx334_1)).trans hx334_1
      replace hx334_2 := (HB.out.cell (World.block_lt_of_cell? w _ hx334_2)).trans hx334_2
      replace hx334_3 := (HB.out.cell (World.block_lt_of_cell? w _ hx334_3)).trans hx334_3
      replace hx334_4 := (HB.out.cell (World.block_lt_of_cell? w _ hx334_4)).trans hx334_4
      have HR334_2 := Aside0.mk hi334_2
      have HC334_2 := Aside0.mk hl334_2
      clear hi334_2 hl334_2
      replace p334 := eq_true p334
      replace q334 := eq_true q334
      go_wp2_with (first | ((with_reducible refine gate_dst (N := 9) rfl ?_); refine box_event ?hg (N := 9) ?hd (cs := #[.int .i64 0, .int .i64 0, .slice none 0 0, .int .i64 0, .int .i64 0]) (t := 64) ?hr ?_; (case hd => rfl); (case hg => rfl); (case hr => first | (go_simp; done) | (go_simp; rfl)); intro gb335 hg w73 hbox hb; have n0_ := Aside0.mk (Kd.R_below (by (with_reducible repeat (first | apply R_alloc | apply R_drewN | apply R_drew)); exact HO_314002.out) hb); have n1_ := Aside0.mk (Kd.R_below (Kd.R_elderB (by (with_reducible repeat (first | apply R_alloc | apply R_drewN | apply R_drew)); exact HO_314003.out) gb335 (Nat.le_of_eq hg.symm)) hb); have n2_ := Aside0.mk (Kd.S_below (by (with_reducible repeat (first | apply S_alloc | apply S_drewN | apply S_drew)); exact HO_323000.out) hb); have n3_ := Aside0.mk (Kd.S_below (Kd.S_elderB (by (with_reducible repeat (first | apply S_alloc | apply S_drewN | apply S_drew)); exact HO_323001.out) gb335 (Nat.le_of_eq hg.symm)) hb); have n4_ := Aside0.mk (Kd.R_below (by (with_reducible repeat (first | apply R_alloc | apply R_drewN | apply R_drew)); exact HO_323004.out) hb); have n5_ := Aside0.mk (blk_below (g := gb305) (o := .cells #[.int .i64 a0_0, .int .i64 a0_1, .slice A0_2 l0_2.length c0_2, .slice (some ad314) l0_3.length c0_3] 25 (0, 0)) (by (with_reducible repeat (first | refine blk_drewN ?_ _ | refine blk_drew ?_ | refine blk_alloc ?_ _)); exact BK305.out) hb); have n6_ := Aside0.mk (blk_below (g := gb306) (o := .cells #[.int .i64 0, .int .i64 0, .slice none 0 0, .slice none 0 0] 25 (0, 0)) (by (with_reducible repeat (first | refine blk_drewN ?_ _ | refine blk_drew ?_ | refine blk_alloc ?_ _)); exact BK306.out) hb); have n7_ := Aside0.mk (blk_below (g := gb313) (o := .cells #[.int .i64 a0_0, .int .i64 a0_1, .slice Ao12 y310.length co12, u314003] 25 (0, 0)) (by (with_reducible repeat (first | refine blk_drewN ?_ _ | refine blk_drew ?_ | refine blk_alloc ?_ _)); exact BK313.out) hb); have n8_ := Aside0.mk (blk_below (g := gb315) (o := .cells #[.slice A314_0 ((rd_T52 l0_3 x4_1).f0).length c314_0, .slice (some ad334) ((rd_T52 l0_3 x4_1).f1).length c314_1, .int .i64 ((rd_T52 l0_3 x4_1).f2.f0), .int .i64 ((rd_T52 l0_3 x4_1).f2.f1), .slice A314_4 ((rd_T52 l0_3 x4_1).f2.f2).length c314_4] 52 (0, 0)) (by (with_reducible repeat (first | refine blk_drewN ?_ _ | refine blk_drew ?_ | refine blk_alloc ?_ _)); exact BK315.out) hb); have n9_ := Aside0.mk (blk_below (g := gb322) (o := .cells #[u323000, u323001, .int .i64 ((rd_T52 l0_3 x4_1).f2.f0), .int .i64 ((rd_T52 l0_3 x4_1).f2.f1), .slice Ao36 y319.length co36] 52 (0, 0)) (by (with_reducible repeat (first | refine blk_drewN ?_ _ | refine blk_drew ?_ | refine blk_alloc ?_ _)); exact BK322.out) hb); have n10_ := Aside0.mk (below_step (by repeat with_reducible first | exact HB.out | apply below_alloc | apply pw_below_drewN | apply below_drew1 | refine below_set ?_ GE305.out | refine below_set ?_ GE306.out | refine below_set ?_ GE313.out | refine below_set ?_ GE315.out | refine below_set ?_ GE322.out) hb); have n11_ := Aside0.mk (hbox); have n12_ := Aside0.mk ((by rw [hg]; exact (below_size (by repeat with_reducible first | exact HB.out | apply below_alloc | apply pw_below_drewN | apply below_drew1 | refine below_set ?_ GE305.out | refine below_set ?_ GE306.out | refine below_set ?_ GE313.out | refine below_set ?_ GE315.out | refine below_set ?_ GE322.out)) : w.heap.size ≤ gb335)); have n13_ := Aside0.mk ((by rw [hg]; exact (below_size (by repeat with_reducible first | exact HB.out | apply below_alloc | apply pw_below_drewN | apply below_drew1 | refine below_set ?_ GE305.out | refine below_set ?_ GE306.out | refine below_set ?_ GE313.out | refine below_set ?_ GE315.out | refine below_set ?_ GE322.out)) : w.heap.size ≤ gb335)); have n14_ := Aside0.mk ((by rw [hg]; exact Nat.ne_of_lt (blk_lt (g := gb305) (o := .cells #[.int .i64 a0_0, .int .i64 a0_1, .slice A0_2 l0_2.length c0_2, .slice (some ad314) l0_3.length c0_3] 25 (0, 0)) (by (with_reducible repeat (first | refine blk_drewN ?_ _ | refine blk_drew ?_ | refine blk_alloc ?_ _)); exact BK305.out)) : gb305 ≠ gb335)); have n15_ := Aside0.mk ((by rw [hg]; exact Nat.ne_of_gt (blk_lt (g := gb305) (o := .cells #[.int .i64 a0_0, .int .i64 a0_1, .slice A0_2 l0_2.length c0_2, .slice (some ad314) l0_3.length c0_3] 25 (0, 0)) (by (with_reducible repeat (first | refine blk_drewN ?_ _ | refine blk_drew ?_ | refine blk_alloc ?_ _)); exact BK305.out)) : gb335 ≠ gb305)); have n16_ := Aside0.mk ((by rw [hg]; exact Nat.ne_of_lt (blk_lt (g := gb306) (o := .cells #[.int .i64 0, .int .i64 0, .slice none 0 0, .slice none 0 0] 25 (0, 0)) (by (with_reducible repeat (first | refine blk_drewN ?_ _ | refine blk_drew ?_ | refine blk_alloc ?_ _)); exact BK306.out)) : gb306 ≠ gb335)); have n17_ := Aside0.mk ((by rw [hg]; exact Nat.ne_of_gt (blk_lt (g := gb306) (o := .cells #[.int .i64 0, .int .i64 0, .slice none 0 0, .slice none 0 0] 25 (0, 0)) (by (with_reducible repeat (first | refine blk_drewN ?_ _ | refine blk_drew ?_ | refine blk_alloc ?_ _)); exact BK306.out)) : gb335 ≠ gb306)); have n18_ := Aside0.mk ((by rw [hg]; exact Nat.ne_of_lt (blk_lt (g := gb313) (o := .cells #[.int .i64 a0_0, .int .i64 a0_1, .slice Ao12 y310.length co12, u314003] 25 (0, 0)) (by (with_reducible repeat (first | refine blk_drewN ?_ _ | refine blk_drew ?_ | refine blk_alloc ?_ _)); exact BK313.out)) : gb313 ≠ gb335)); have n19_ := Aside0.mk ((by rw [hg]; exact Nat.ne_of_gt (blk_lt (g := gb313) (o := .cells #[.int .i64 a0_0, .int .i64 a0_1, .slice Ao12 y310.length co12, u314003] 25 (0, 0)) (by (with_reducible repeat (first | refine blk_drewN ?_ _ | refine blk_drew ?_ | refine blk_alloc ?_ _)); exact BK313.out)) : gb335 ≠ gb313)); have n20_ := Aside0.mk ((by rw [hg]; exact Nat.ne_of_lt (blk_lt (g := gb315) (o := .cells #[.slice A314_0 ((rd_T52 l0_3 x4_1).f0).length c314_0, .slice (some ad334) ((rd_T52 l0_3 x4_1).f1).length c314_1, .int .i64 ((rd_T52 l0_3 x4_1).f2.f0), .int .i64 ((rd_T52 l0_3 x4_1).f2.f1), .slice A314_4 ((rd_T52 l0_3 x4_1).f2.f2).length c314_4] 52 (0, 0)) (by (with_reducible repeat (first | refine blk_drewN ?_ _ | refine blk_drew ?_ | refine blk_alloc ?_ _)); exact BK315.out)) : gb315 ≠ gb335)); have n21_ := Aside0.mk ((by rw [hg]; exact Nat.ne_of_gt (blk_lt (g := gb315) (o := .cells #[.slice A314_0 ((rd_T52 l0_3 x4_1).f0).length c314_0, .slice (some ad334) ((rd_T52 l0_3 x4_1).f1).length c314_1, .int .i64 ((rd_T52 l0_3 x4_1).f2.f0), .int .i64 ((rd_T52 l0_3 x4_1).f2.f1), .slice A314_4 ((rd_T52 l0_3 x4_1).f2.f2).length c314_4] 52 (0, 0)) (by (with_reducible repeat (first | refine blk_drewN ?_ _ | refine blk_drew ?_ | refine blk_alloc ?_ _)); exact BK315.out)) : gb335 ≠ gb315)); have n22_ := Aside0.mk ((by rw [hg]; exact Nat.ne_of_lt (blk_lt (g := gb322) (o := .cells #[u323000, u323001, .int .i64 ((rd_T52 l0_3 x4_1).f2.f0), .int .i64 ((rd_T52 l0_3 x4_1).f2.f1), .slice Ao36 y319.length co36] 52 (0, 0)) (by (with_reducible repeat (first | refine blk_drewN ?_ _ | refine blk_drew ?_ | refine blk_alloc ?_ _)); exact BK322.out)) : gb322 ≠ gb335)); have n23_ := Aside0.mk ((by rw [hg]; exact Nat.ne_of_gt (blk_lt (g := gb322) (o := .cells #[u323000, u323001, .int .i64 ((rd_T52 l0_3 x4_1).f2.f0), .int .i64 ((rd_T52 l0_3 x4_1).f2.f1), .slice Ao36 y319.length co36] 52 (0, 0)) (by (with_reducible repeat (first | refine blk_drewN ?_ _ | refine blk_drew ?_ | refine blk_alloc ?_ _)); exact BK322.out)) : gb335 ≠ gb322)); clear HO_314002; clear HO_314003; clear HO_323000; clear HO_323001; clear HO_323004; clear BK305; clear BK306; clear BK313; clear BK315; clear BK322; clear HB; have HO_314002 := n0_; have HO_314003 := n1_; have HO_323000 := n2_; have HO_323001 := n3_; have HO_323004 := n4_; have BK305 := n5_; have BK306 := n6_; have BK313 := n7_; have BK315 := n8_; have BK322 := n9_; have HB := n10_; have BK335 := n11_; have GW335 := n12_; have GE335 := n13_; have NB305_335 := n14_; have NB335_305 := n15_; have NB306_335 := n16_; have NB335_306 := n17_; have NB313_335 := n18_; have NB335_313 := n19_; have NB315_335 := n20_; have NB335_315 := n21_; have NB322_335 := n22_; have NB335_322 := n23_; clear n0_ n1_ n2_ n3_ n4_ n5_ n6_ n7_ n8_ n9_ n10_ n11_ n12_ n13_ n14_ n15_ n16_ n17_ n18_ n19_ n20_ n21_ n22_ n23_; clear hb hbox hg; have hnb74 := NB335_305.out; have hnc74 := NB305_335.out; have hnb75 := NB335_306.out; have hnc75 := NB306_335.out; have hnb76 := NB335_313.out; have hnc76 := NB313_335.out; have hnb77 := NB335_315.out; have hnc77 := NB315_335.out; have hnb78 := NB335_322.out; have hnc78 := NB322_335.out; have hcz79_0 : w73.cell? ⟨gb335, 0, none⟩ = some (.int .i64 0) := (blk_cell BK335.out 0).trans rfl; have hcz79_1 : w73.cell? ⟨gb335, 1, none⟩ = some (.int .i64 0) := (blk_cell BK335.out 1).trans rfl; have hcz79_2 : w73.cell? ⟨gb335, 2, none⟩ = some (.slice none 0 0) := (blk_cell BK335.out 2).trans rfl; have hcz79_3 : w73.cell? ⟨gb335, 3, none⟩ = some (.int .i64 0) := (blk_cell BK335.out 3).trans rfl; have hcz79_4 : w73.cell? ⟨gb335, 4, none⟩ = some (.int .i64 0) := (blk_cell BK335.out 4).trans rfl; have hfz79_0 := blk_frozen BK335.out 0; have hfz79_1 := blk_frozen BK335.out 1; have hfz79_2 := blk_frozen BK335.out 2; have hfz79_3 := blk_frozen BK335.out 3; have hfz79_4 := blk_frozen BK335.out 4) | ((with_reducible refine gate_dst (N := 83) rfl ?_); refine Kd.R_lit (Kd.int .i64) _ 3 ?hg (N := 83) ?hd (xs := ([] : List Int)) (inner := []) (ok := fun _ => True) (okp := fun _ => True) ?hr ?hp (fun _ hk => hk) trivial (Below.refl _ _) (Nat.le_refl _) (by simp) ?_; (case hd => rfl); (case hg => rfl); (case hr => first | (go_simp; done) | (go_simp; rfl)); (case hp => exact (Reps.none _ _)); intro v337 w80 ho81 hb hg_ hnew_; clear hg_ hnew_; rw [← Ny336.out] at ho81; have n0_ := Aside0.mk (R_elder' (by (with_reducible repeat (first | apply R_alloc | apply R_drewN | apply R_drew)); exact (R_mono (Kd.R_far (p := ⟨gb335, 4, none⟩) (Kd.R_far (p := ⟨gb335, 3, none⟩) (Kd.R_far (p := ⟨gb335, 2, none⟩) (Kd.R_far (p := ⟨gb335, 1, none⟩) (Kd.R_far (p := ⟨gb335, 0, none⟩) (Kd.R_types HO_314002.out BK335.out (by decide)) (fun _ hk => hk.2) (.int .i64 ((rd_T64 ((rd_T52 l0_3 x4_1).f1) x8_3).f0))) (fun _ hk => hk.2) (.int .i64 ((rd_T64 ((rd_T52 l0_3 x4_1).f1) x8_3).f1))) (fun _ hk => hk.2) (.slice A334_2 ((rd_T64 ((rd_T52 l0_3 x4_1).f1) x8_3).f2).length c334_2)) (fun _ hk => hk.2) (.int .i64 ((rd_T64 ((rd_T52 l0_3 x4_1).f1) x8_3).f3))) (fun _ hk => hk.2) (.int .i64 ((rd_T64 ((rd_T52 l0_3 x4_1).f1) x8_3).f4))) (fun _ h_ => h_.1))) (R_base ho81) hb); have n1_ := Aside0.mk (R_elder' (by (with_reducible repeat (first | apply R_alloc | apply R_drewN | apply R_drew)); exact (R_mono (Kd.R_far (p := ⟨gb335, 4, none⟩) (Kd.R_far (p := ⟨gb335, 3, none⟩) (Kd.R_far (p := ⟨gb335, 2, none⟩) (Kd.R_far (p := ⟨gb335, 1, none⟩) (Kd.R_far (p := ⟨gb335, 0, none⟩) (R_mono HO_314003.out (fun k_ hk => (⟨hk, hk.2⟩ : _ ∧ k_ ≠ gb335))) (fun _ hk => hk.2) (.int .i64 ((rd_T64 ((rd_T52 l0_3 x4_1).f1) x8_3).f0))) (fun _ hk => hk.2) (.int .i64 ((rd_T64 ((rd_T52 l0_3 x4_1).f1) x8_3).f1))) (fun _ hk => hk.2) (.slice A334_2 ((rd_T64 ((rd_T52 l0_3 x4_1).f1) x8_3).f2).length c334_2)) (fun _ hk => hk.2) (.int .i64 ((rd_T64 ((rd_T52 l0_3 x4_1).f1) x8_3).f3))) (fun _ hk => hk.2) (.int .i64 ((rd_T64 ((rd_T52 l0_3 x4_1).f1) x8_3).f4))) (fun _ h_ => h_.1))) (R_base ho81) hb); have n2_ := Aside0.mk (Kd.S_elder' (by (with_reducible repeat (first | apply S_alloc | apply S_drewN | apply S_drew)); exact (S_mono (Kd.S_far (p := ⟨gb335, 4, none⟩) (Kd.S_far (p := ⟨gb335, 3, none⟩) (Kd.S_far (p := ⟨gb335, 2, none⟩) (Kd.S_far (p := ⟨gb335, 1, none⟩) (Kd.S_far (p := ⟨gb335, 0, none⟩) (Kd.S_types HO_323000.out BK335.out (by decide)) (fun _ hk => hk.2) (.int .i64 ((rd_T64 ((rd_T52 l0_3 x4_1).f1) x8_3).f0))) (fun _ hk => hk.2) (.int .i64 ((rd_T64 ((rd_T52 l0_3 x4_1).f1) x8_3).f1))) (fun _ hk => hk.2) (.slice A334_2 ((rd_T64 ((rd_T52 l0_3 x4_1).f1) x8_3).f2).length c334_2)) (fun _ hk => hk.2) (.int .i64 ((rd_T64 ((rd_T52 l0_3 x4_1).f1) x8_3).f3))) (fun _ hk => hk.2) (.int .i64 ((rd_T64 ((rd_T52 l0_3 x4_1).f1) x8_3).f4))) (fun _ h_ => h_.1))) (R_base ho81) hb); have n3_ := Aside0.mk (Kd.S_elder' (by (with_reducible repeat (first | apply S_alloc | apply S_drewN | apply S_drew)); exact (S_mono (Kd.S_far (p := ⟨gb335, 4, none⟩) (Kd.S_far (p := ⟨gb335, 3, none⟩) (Kd.S_far (p := ⟨gb335, 2, none⟩) (Kd.S_far (p := ⟨gb335, 1, none⟩) (Kd.S_far (p := ⟨gb335, 0, none⟩) (S_mono HO_323001.out (fun k_ hk => (⟨hk, hk.2⟩ : _ ∧ k_ ≠ gb335))) (fun _ hk => hk.2) (.int .i64 ((rd_T64 ((rd_T52 l0_3 x4_1).f1) x8_3).f0))) (fun _ hk => hk.2) (.int .i64 ((rd_T64 ((rd_T52 l0_3 x4_1).f1) x8_3).f1))) (fun _ hk => hk.2) (.slice A334_2 ((rd_T64 ((rd_T52 l0_3 x4_1).f1) x8_3).f2).length c334_2)) (fun _ hk => hk.2) (.int .i64 ((rd_T64 ((rd_T52 l0_3 x4_1).f1) x8_3).f3))) (fun _ hk => hk.2) (.int .i64 ((rd_T64 ((rd_T52 l0_3 x4_1).f1) x8_3).f4))) (fun _ h_ => h_.1))) (R_base ho81) hb); have n4_ := Aside0.mk (R_elder' (by (with_reducible repeat (first | apply R_alloc | apply R_drewN | apply R_drew)); exact (R_mono (Kd.R_far (p := ⟨gb335, 4, none⟩) (Kd.R_far (p := ⟨gb335, 3, none⟩) (Kd.R_far (p := ⟨gb335, 2, none⟩) (Kd.R_far (p := ⟨gb335, 1, none⟩) (Kd.R_far (p := ⟨gb335, 0, none⟩) (Kd.R_types HO_323004.out BK335.out (by decide)) (fun _ hk => hk.2) (.int .i64 ((rd_T64 ((rd_T52 l0_3 x4_1).f1) x8_3).f0))) (fun _ hk => hk.2) (.int .i64 ((rd_T64 ((rd_T52 l0_3 x4_1).f1) x8_3).f1))) (fun _ hk => hk.2) (.slice A334_2 ((rd_T64 ((rd_T52 l0_3 x4_1).f1) x8_3).f2).length c334_2)) (fun _ hk => hk.2) (.int .i64 ((rd_T64 ((rd_T52 l0_3 x4_1).f1) x8_3).f3))) (fun _ hk => hk.2) (.int .i64 ((rd_T64 ((rd_T52 l0_3 x4_1).f1) x8_3).f4))) (fun _ h_ => h_.1))) (R_base ho81) hb); have n5_ := Aside0.mk (Kd.R_lower (R_new' (R_new' ho81 (R_lt (by (with_reducible repeat (first | apply R_alloc | apply R_drewN | apply R_drew)); exact (R_mono (Kd.R_far (p := ⟨gb335, 4, none⟩) (Kd.R_far (p := ⟨gb335, 3, none⟩) (Kd.R_far (p := ⟨gb335, 2, none⟩) (Kd.R_far (p := ⟨gb335, 1, none⟩) (Kd.R_far (p := ⟨gb335, 0, none⟩) (Kd.R_types HO_314002.out BK335.out (by decide)) (fun _ hk => hk.2) (.int .i64 ((rd_T64 ((rd_T52 l0_3 x4_1).f1) x8_3).f0))) (fun _ hk => hk.2) (.int .i64 ((rd_T64 ((rd_T52 l0_3 x4_1).f1) x8_3).f1))) (fun _ hk => hk.2) (.slice A334_2 ((rd_T64 ((rd_T52 l0_3 x4_1).f1) x8_3).f2).length c334_2)) (fun _ hk => hk.2) (.int .i64 ((rd_T64 ((rd_T52 l0_3 x4_1).f1) x8_3).f3))) (fun _ hk => hk.2) (.int .i64 ((rd_T64 ((rd_T52 l0_3 x4_1).f1) x8_3).f4))) (fun _ h_ => h_.1))))) (R_lt (by (with_reducible repeat (first | apply R_alloc | apply R_drewN | apply R_drew)); exact (R_mono (Kd.R_far (p := ⟨gb335, 4, none⟩) (Kd.R_far (p := ⟨gb335, 3, none⟩) (Kd.R_far (p := ⟨gb335, 2, none⟩) (Kd.R_far (p := ⟨gb335, 1, none⟩) (Kd.R_far (p := ⟨gb335, 0, none⟩) (Kd.R_types HO_323004.out BK335.out (by decide)) (fun _ hk => hk.2) (.int .i64 ((rd_T64 ((rd_T52 l0_3 x4_1).f1) x8_3).f0))) (fun _ hk => hk.2) (.int .i64 ((rd_T64 ((rd_T52 l0_3 x4_1).f1) x8_3).f1))) (fun _ hk => hk.2) (.slice A334_2 ((rd_T64 ((rd_T52 l0_3 x4_1).f1) x8_3).f2).length c334_2)) (fun _ hk => hk.2) (.int .i64 ((rd_T64 ((rd_T52 l0_3 x4_1).f1) x8_3).f3))) (fun _ hk => hk.2) (.int .i64 ((rd_T64 ((rd_T52 l0_3 x4_1).f1) x8_3).f4))) (fun _ h_ => h_.1))))) (below_size (by repeat with_reducible first | exact HB.out | apply below_alloc | apply pw_below_drewN | apply below_drew1 | refine below_set ?_ GE305.out | refine below_set ?_ GE306.out | refine below_set ?_ GE313.out | refine below_set ?_ GE315.out | refine below_set ?_ GE322.out | refine below_set ?_ GE335.out))); have n6_ := Aside0.mk (blk_below (g := gb305) (o := .cells #[.int .i64 a0_0, .int .i64 a0_1, .slice A0_2 l0_2.length c0_2, .slice (some ad314) l0_3.length c0_3] 25 (0, 0)) (by (with_reducible repeat (first | refine blk_drewN ?_ _ | refine blk_drew ?_ | refine blk_alloc ?_ _)); refine blk_far ?_ NB305_335.out _; (with_reducible repeat (first | refine blk_drewN ?_ _ | refine blk_drew ?_ | refine blk_alloc ?_ _)); refine blk_far ?_ NB305_335.out _; (with_reducible repeat (first | refine blk_drewN ?_ _ | refine blk_drew ?_ | refine blk_alloc ?_ _)); refine blk_far ?_ NB305_335.out _; (with_reducible repeat (first | refine blk_drewN ?_ _ | refine blk_drew ?_ | refine blk_alloc ?_ _)); refine blk_far ?_ NB305_335.out _; (with_reducible repeat (first | refine blk_drewN ?_ _ | refine blk_drew ?_ | refine blk_alloc ?_ _)); refine blk_far ?_ NB305_335.out _; (with_reducible repeat (first | refine blk_drewN ?_ _ | refine blk_drew ?_ | refine blk_alloc ?_ _)); exact BK305.out) hb); have n7_ := Aside0.mk (blk_below (g := gb306) (o := .cells #[.int .i64 0, .int .i64 0, .slice none 0 0, .slice none 0 0] 25 (0, 0)) (by (with_reducible repeat (first | refine blk_drewN ?_ _ | refine blk_drew ?_ | refine blk_alloc ?_ _)); refine blk_far ?_ NB306_335.out _; (with_reducible repeat (first | refine blk_drewN ?_ _ | refine blk_drew ?_ | refine blk_alloc ?_ _)); refine blk_far ?_ NB306_335.out _; (with_reducible repeat (first | refine blk_drewN ?_ _ | refine blk_drew ?_ | refine blk_alloc ?_ _)); refine blk_far ?_ NB306_335.out _; (with_reducible repeat (first | refine blk_drewN ?_ _ | refine blk_drew ?_ | refine blk_alloc ?_ _)); refine blk_far ?_ NB306_335.out _; (with_reducible repeat (first | refine blk_drewN ?_ _ | refine blk_drew ?_ | refine blk_alloc ?_ _)); refine blk_far ?_ NB306_335.out _; (with_reducible repeat (first | refine blk_drewN ?_ _ | refine blk_drew ?_ | refine blk_alloc ?_ _)); exact BK306.out) hb); have n8_ := Aside0.mk (blk_below (g := gb313) (o := .cells #[.int .i64 a0_0, .int .i64 a0_1, .slice Ao12 y310.length co12, u314003] 25 (0, 0)) (by (with_reducible repeat (first | refine blk_drewN ?_ _ | refine blk_drew ?_ | refine blk_alloc ?_ _)); refine blk_far ?_ NB313_335.out _; (with_reducible repeat (first | refine blk_drewN ?_ _ | refine blk_drew ?_ | refine blk_alloc ?_ _)); refine blk_far ?_ NB313_335.out _; (with_reducible repeat (first | refine blk_drewN ?_ _ | refine blk_drew ?_ | refine blk_alloc ?_ _)); refine blk_far ?_ NB313_335.out _; (with_reducible repeat (first | refine blk_drewN ?_ _ | refine blk_drew ?_ | refine blk_alloc ?_ _)); refine blk_far ?_ NB313_335.out _; (with_reducible repeat (first | refine blk_drewN ?_ _ | refine blk_drew ?_ | refine blk_alloc ?_ _)); refine blk_far ?_ NB313_335.out _; (with_reducible repeat (first | refine blk_drewN ?_ _ | refine blk_drew ?_ | refine blk_alloc ?_ _)); exact BK313.out) hb); have n9_ := Aside0.mk (blk_below (g := gb315) (o := .cells #[.slice A314_0 ((rd_T52 l0_3 x4_1).f0).length c314_0, .slice (some ad334) ((rd_T52 l0_3 x4_1).f1).length c314_1, .int .i64 ((rd_T52 l0_3 x4_1).f2.f0), .int .i64 ((rd_T52 l0_3 x4_1).f2.f1), .slice A314_4 ((rd_T52 l0_3 x4_1).f2.f2).length c314_4] 52 (0, 0)) (by (with_reducible repeat (first | refine blk_drewN ?_ _ | refine blk_drew ?_ | refine blk_alloc ?_ _)); refine blk_far ?_ NB315_335.out _; (with_reducible repeat (first | refine blk_drewN ?_ _ | refine blk_drew ?_ | refine blk_alloc ?_ _)); refine blk_far ?_ NB315_335.out _; (with_reducible repeat (first | refine blk_drewN ?_ _ | refine blk_drew ?_ | refine blk_alloc ?_ _)); refine blk_far ?_ NB315_335.out _; (with_reducible repeat (first | refine blk_drewN ?_ _ | refine blk_drew ?_ | refine blk_alloc ?_ _)); refine blk_far ?_ NB315_335.out _; (with_reducible repeat (first | refine blk_drewN ?_ _ | refine blk_drew ?_ | refine blk_alloc ?_ _)); refine blk_far ?_ NB315_335.out _; (with_reducible repeat (first | refine blk_drewN ?_ _ | refine blk_drew ?_ | refine blk_alloc ?_ _)); exact BK315.out) hb); have n10_ := Aside0.mk (blk_below (g := gb322) (o := .cells #[u323000, u323001, .int .i64 ((rd_T52 l0_3 x4_1).f2.f0), .int .i64 ((rd_T52 l0_3 x4_1).f2.f1), .slice Ao36 y319.length co36] 52 (0, 0)) (by (with_reducible repeat (first | refine blk_drewN ?_ _ | refine blk_drew ?_ | refine blk_alloc ?_ _)); refine blk_far ?_ NB322_335.out _; (with_reducible repeat (first | refine blk_drewN ?_ _ | refine blk_drew ?_ | refine blk_alloc ?_ _)); refine blk_far ?_ NB322_335.out _; (with_reducible repeat (first | refine blk_drewN ?_ _ | refine blk_drew ?_ | refine blk_alloc ?_ _)); refine blk_far ?_ NB322_335.out _; (with_reducible repeat (first | refine blk_drewN ?_ _ | refine blk_drew ?_ | refine blk_alloc ?_ _)); refine blk_far ?_ NB322_335.out _; (with_reducible repeat (first | refine blk_drewN ?_ _ | refine blk_drew ?_ | refine blk_alloc ?_ _)); refine blk_far ?_ NB322_335.out _; (with_reducible repeat (first | refine blk_drewN ?_ _ | refine blk_drew ?_ | refine blk_alloc ?_ _)); exact BK322.out) hb); have n11_ := Aside0.mk (blk_below (g := gb335) (o := .cells #[.int .i64 ((rd_T64 ((rd_T52 l0_3 x4_1).f1) x8_3).f0), .int .i64 ((rd_T64 ((rd_T52 l0_3 x4_1).f1) x8_3).f1), .slice A334_2 ((rd_T64 ((rd_T52 l0_3 x4_1).f1) x8_3).f2).length c334_2, .int .i64 ((rd_T64 ((rd_T52 l0_3 x4_1).f1) x8_3).f3), .int .i64 ((rd_T64 ((rd_T52 l0_3 x4_1).f1) x8_3).f4)] 64 (0, 0)) (by (with_reducible repeat (first | refine blk_drewN ?_ _ | refine blk_drew ?_ | refine blk_alloc ?_ _)); refine blk_put (cs := #[.int .i64 ((rd_T64 ((rd_T52 l0_3 x4_1).f1) x8_3).f0), .int .i64 ((rd_T64 ((rd_T52 l0_3 x4_1).f1) x8_3).f1), .slice A334_2 ((rd_T64 ((rd_T52 l0_3 x4_1).f1) x8_3).f2).length c334_2, .int .i64 ((rd_T64 ((rd_T52 l0_3 x4_1).f1) x8_3).f3), .int .i64 0]) ?_ 4 _ rfl; (with_reducible repeat (first | refine blk_drewN ?_ _ | refine blk_drew ?_ | refine blk_alloc ?_ _)); refine blk_put (cs := #[.int .i64 ((rd_T64 ((rd_T52 l0_3 x4_1).f1) x8_3).f0), .int .i64 ((rd_T64 ((rd_T52 l0_3 x4_1).f1) x8_3).f1), .slice A334_2 ((rd_T64 ((rd_T52 l0_3 x4_1).f1) x8_3).f2).length c334_2, .int .i64 0, .int .i64 0]) ?_ 3 _ rfl; (with_reducible repeat (first | refine blk_drewN ?_ _ | refine blk_drew ?_ | refine blk_alloc ?_ _)); refine blk_put (cs := #[.int .i64 ((rd_T64 ((rd_T52 l0_3 x4_1).f1) x8_3).f0), .int .i64 ((rd_T64 ((rd_T52 l0_3 x4_1).f1) x8_3).f1), .slice none 0 0, .int .i64 0, .int .i64 0]) ?_ 2 _ rfl; (with_reducible repeat (first | refine blk_drewN ?_ _ | refine blk_drew ?_ | refine blk_alloc ?_ _)); refine blk_put (cs := #[.int .i64 ((rd_T64 ((rd_T52 l0_3 x4_1).f1) x8_3).f0), .int .i64 0, .slice none 0 0, .int .i64 0, .int .i64 0]) ?_ 1 _ rfl; (with_reducible repeat (first | refine blk_drewN ?_ _ | refine blk_drew ?_ | refine blk_alloc ?_ _)); refine blk_put (cs := #[.int .i64 0, .int .i64 0, .slice none 0 0, .int .i64 0, .int .i64 0]) ?_ 0 _ rfl; (with_reducible repeat (first | refine blk_drewN ?_ _ | refine blk_drew ?_ | refine blk_alloc ?_ _)); exact BK335.out) hb); have n12_ := Aside0.mk (below_step (by repeat with_reducible first | exact HB.out | apply below_alloc | apply pw_below_drewN | apply below_drew1 | refine below_set ?_ GE305.out | refine below_set ?_ GE306.out | refine below_set ?_ GE313.out | refine below_set ?_ GE315.out | refine below_set ?_ GE322.out | refine below_set ?_ GE335.out) hb); clear HO_314002; clear HO_314003; clear HO_323000; clear HO_323001; clear HO_323004; clear BK305; clear BK306; clear BK313; clear BK315; clear BK322; clear BK335; clear HB; have HO_314002 := n0_; have HO_314003 := n1_; have HO_323000 := n2_; have HO_323001 := n3_; have HO_323004 := n4_; have HO338 := n5_; have BK305 := n6_; have BK306 := n7_; have BK313 := n8_; have BK315 := n9_; have BK322 := n10_; have BK335 := n11_; have HB := n12_; clear n0_ n1_ n2_ n3_ n4_ n5_ n6_ n7_ n8_ n9_ n10_ n11_ n12_; clear hb ho81; have hcz82_0 : w80.cell? ⟨gb335, 0, none⟩ = some (.int .i64 ((rd_T64 ((rd_T52 l0_3 x4_1).f1) x8_3).f0)) := (blk_cell BK335.out 0).trans rfl; have hcz82_1 : w80.cell? ⟨gb335, 1, none⟩ = some (.int .i64 ((rd_T64 ((rd_T52 l0_3 x4_1).f1) x8_3).f1)) := (blk_cell BK335.out 1).trans rfl; have hcz82_2 : w80.cell? ⟨gb335, 2, none⟩ = some (.slice A334_2 ((rd_T64 ((rd_T52 l0_3 x4_1).f1) x8_3).f2).length c334_2) := (blk_cell BK335.out 2).trans rfl; have hcz82_3 : w80.cell? ⟨gb335, 3, none⟩ = some (.int .i64 ((rd_T64 ((rd_T52 l0_3 x4_1).f1) x8_3).f3)) := (blk_cell BK335.out 3).trans rfl; have hcz82_4 : w80.cell? ⟨gb335, 4, none⟩ = some (.int .i64 ((rd_T64 ((rd_T52 l0_3 x4_1).f1) x8_3).f4)) := (blk_cell BK335.out 4).trans rfl; have hfz82_0 := blk_frozen BK335.out 0; have hfz82_1 := blk_frozen BK335.out 1; have hfz82_2 := blk_frozen BK335.out 2; have hfz82_3 := blk_frozen BK335.out 3; have hfz82_4 := blk_frozen BK335.out 4) | ((with_reducible refine gate_builtin (b := .append) (xs := #[.tmp 83, .tmp 85]) rfl ?_); at_builtin; refine Kd.R_append_rows (Kd.int .i64) (w0 := w) w.heap.size rfl (.tmp 83) (.tmp 85) 22 3 (.int .i64 0) 8 rfl Try.underlying22 info3 rfl (by decide) (by omega) v337 y336 ((rd_T64 ((rd_T52 l0_3 x4_1).f1) x8_3).f2) _ _ _ (fun k_ => some k_ ≠ (.slice Ao12 y310.length co12 : Value).ownBlock ∧ some k_ ≠ (.slice Ao36 y319.length co36 : Value).ownBlock) (fun _ => False) rfl rfl ?aO ?aR (fun _ _ h => h) (fun _ h => h.elim) ?aF ?aB ?aS ?aL ?_; (case aR => repeat (first | exact (C_below HR334_2.out HB.out) | (with_reducible refine C_alloc ?_ _) | (with_reducible refine C_drewN ?_ _) | (with_reducible refine C_drew ?_))); (case aB => exact (by repeat with_reducible first | exact HB.out | apply below_alloc | apply pw_below_drewN | apply below_drew1 | refine below_set ?_ GE305.out | refine below_set ?_ GE306.out | refine below_set ?_ GE313.out | refine below_set ?_ GE315.out | refine below_set ?_ GE322.out | refine below_set ?_ GE335.out)); (case aF => exact (fun k_ hk => ⟨Kd.fresh' (R_lt (by (with_reducible repeat (first | apply R_alloc | apply R_drewN | apply R_drew)); exact HO_314002.out)) k_ hk, Kd.fresh' (R_lt (by (with_reducible repeat (first | apply R_alloc | apply R_drewN | apply R_drew)); exact HO_323004.out)) k_ hk⟩)); (case aO => exact (by (with_reducible repeat (first | apply R_alloc | apply R_drewN | apply R_drew)); exact R_mono HO338.out (fun _ hk => ⟨hk.1.2, hk.2⟩))); (case aS => exact (below_size (by repeat with_reducible first | exact HB.out | apply below_alloc | apply pw_below_drewN | apply below_drew1 | refine below_set ?_ GE305.out | refine below_set ?_ GE306.out | refine below_set ?_ GE313.out | refine below_set ?_ GE315.out | refine below_set ?_ GE322.out | refine below_set ?_ GE335.out))); (case aL => have := LMc66.out; omega); intro v340 w83 ho hb hg hat; rw [← Ny339.out] at ho; have n0_ := Aside0.mk (Kd.R_after (ok := (fun k_ => some k_ ≠ (.slice Ao36 y319.length co36 : Value).ownBlock)) (by (with_reducible repeat (first | apply R_alloc | apply R_drewN | apply R_drew)); exact HO_314002.out) hg hat); have n1_ := Aside0.mk (Kd.R_after (ok := (fun k_ => some k_ ≠ (.slice Ao12 y310.length co12 : Value).ownBlock ∧ some k_ ≠ (u323000 : Value).ownBlock ∧ some k_ ≠ (u323001 : Value).ownBlock ∧ some k_ ≠ (.slice Ao36 y319.length co36 : Value).ownBlock ∧ k_ ≠ gb315 ∧ k_ ≠ gb322 ∧ k_ ≠ gb335)) (by (with_reducible repeat (first | apply R_alloc | apply R_drewN | apply R_drew)); exact R_mono HO_314003.out (fun _ hk => ⟨⟨hk.1.1.1, ⟨hk.1.1.2.1, ⟨hk.1.1.2.2.1, ⟨hk.1.1.2.2.2.1, ⟨hk.1.1.2.2.2.2.1, ⟨hk.1.1.2.2.2.2.2, hk.1.2⟩⟩⟩⟩⟩⟩, hk.2⟩)) hg hat); have n2_ := Aside0.mk (Kd.S_after (ok := (fun k_ => some k_ ≠ (.slice Ao12 y310.length co12 : Value).ownBlock ∧ some k_ ≠ (.slice Ao36 y319.length co36 : Value).ownBlock)) (by (with_reducible repeat (first | apply S_alloc | apply S_drewN | apply S_drew)); exact HO_323000.out) hg hat); have n3_ := Aside0.mk (Kd.S_after (ok := (fun k_ => some k_ ≠ (.slice Ao12 y310.length co12 : Value).ownBlock ∧ some k_ ≠ (.slice Ao36 y319.length co36 : Value).ownBlock ∧ k_ ≠ gb335)) (by (with_reducible repeat (first | apply S_alloc | apply S_drewN | apply S_drew)); exact S_mono HO_323001.out (fun _ hk => ⟨⟨hk.1.1.1, ⟨hk.1.1.2, hk.1.2⟩⟩, hk.2⟩)) hg hat); have n4_ := Aside0.mk (Kd.R_after (ok := (fun k_ => some k_ ≠ (.slice Ao12 y310.length co12 : Value).ownBlock)) (by (with_reducible repeat (first | apply R_alloc | apply R_drewN | apply R_drew)); exact HO_323004.out) hg hat); have n5_ := Aside0.mk (blk_grown (g := gb305) (o := .cells #[.int .i64 a0_0, .int .i64 a0_1, .slice A0_2 l0_2.length c0_2, .slice (some ad314) l0_3.length c0_3] 25 (0, 0)) (by (with_reducible repeat (first | refine blk_drewN ?_ _ | refine blk_drew ?_ | refine blk_alloc ?_ _)); exact BK305.out) hg (Kd.R_ne HO338.out BK305.out (by decide))); have n6_ := Aside0.mk (blk_grown (g := gb306) (o := .cells #[.int .i64 0, .int .i64 0, .slice none 0 0, .slice none 0 0] 25 (0, 0)) (by (with_reducible repeat (first | refine blk_drewN ?_ _ | refine blk_drew ?_ | refine blk_alloc ?_ _)); exact BK306.out) hg (Kd.R_ne HO338.out BK306.out (by decide))); have n7_ := Aside0.mk (blk_grown (g := gb313) (o := .cells #[.int .i64 a0_0, .int .i64 a0_1, .slice Ao12 y310.length co12, u314003] 25 (0, 0)) (by (with_reducible repeat (first | refine blk_drewN ?_ _ | refine blk_drew ?_ | refine blk_alloc ?_ _)); exact BK313.out) hg (Kd.R_ne HO338.out BK313.out (by decide))); have n8_ := Aside0.mk (blk_grown (g := gb315) (o := .cells #[.slice A314_0 ((rd_T52 l0_3 x4_1).f0).length c314_0, .slice (some ad334) ((rd_T52 l0_3 x4_1).f1).length c314_1, .int .i64 ((rd_T52 l0_3 x4_1).f2.f0), .int .i64 ((rd_T52 l0_3 x4_1).f2.f1), .slice A314_4 ((rd_T52 l0_3 x4_1).f2.f2).length c314_4] 52 (0, 0)) (by (with_reducible repeat (first | refine blk_drewN ?_ _ | refine blk_drew ?_ | refine blk_alloc ?_ _)); exact BK315.out) hg (Kd.R_ne HO338.out BK315.out (by decide))); have n9_ := Aside0.mk (blk_grown (g := gb322) (o := .cells #[u323000, u323001, .int .i64 ((rd_T52 l0_3 x4_1).f2.f0), .int .i64 ((rd_T52 l0_3 x4_1).f2.f1), .slice Ao36 y319.length co36] 52 (0, 0)) (by (with_reducible repeat (first | refine blk_drewN ?_ _ | refine blk_drew ?_ | refine blk_alloc ?_ _)); exact BK322.out) hg (Kd.R_ne HO338.out BK322.out (by decide))); have n10_ := Aside0.mk (blk_grown (g := gb335) (o := .cells #[.int .i64 ((rd_T64 ((rd_T52 l0_3 x4_1).f1) x8_3).f0), .int .i64 ((rd_T64 ((rd_T52 l0_3 x4_1).f1) x8_3).f1), .slice A334_2 ((rd_T64 ((rd_T52 l0_3 x4_1).f1) x8_3).f2).length c334_2, .int .i64 ((rd_T64 ((rd_T52 l0_3 x4_1).f1) x8_3).f3), .int .i64 ((rd_T64 ((rd_T52 l0_3 x4_1).f1) x8_3).f4)] 64 (0, 0)) (by (with_reducible repeat (first | refine blk_drewN ?_ _ | refine blk_drew ?_ | refine blk_alloc ?_ _)); exact BK335.out) hg (Kd.R_ne HO338.out BK335.out (by decide))); have n11_ := Aside0.mk (hb); have n12_ := Aside0.mk (ho); clear HO_314002; clear HO_314003; clear HO_323000; clear HO_323001; clear HO_323004; clear BK305; clear BK306; clear BK313; clear BK315; clear BK322; clear BK335; clear HB; clear HO338; have HO_314002 := n0_; have HO_314003 := n1_; have HO_323000 := n2_; have HO_323001 := n3_; have HO_323004 := n4_; have BK305 := n5_; have BK306 := n6_; have BK313 := n7_; have BK315 := n8_; have BK322 := n9_; have BK335 := n10_; have HB := n11_; have HO341 := n12_; clear n0_ n1_ n2_ n3_ n4_ n5_ n6_ n7_ n8_ n9_ n10_ n11_ n12_; clear ho hb hg hat; obtain ⟨Ao84, co84, eo84⟩ := Kd.R_slice HO341.out; subst eo84; have hcz85_0 : w83.cell? ⟨gb335, 0, none⟩ = some (.int .i64 ((rd_T64 ((rd_T52 l0_3 x4_1).f1) x8_3).f0)) := (blk_cell BK335.out 0).trans rfl; have hcz85_1 : w83.cell? ⟨gb335, 1, none⟩ = some (.int .i64 ((rd_T64 ((rd_T52 l0_3 x4_1).f1) x8_3).f1)) := (blk_cell BK335.out 1).trans rfl; have hcz85_2 : w83.cell? ⟨gb335, 2, none⟩ = some (.slice A334_2 ((rd_T64 ((rd_T52 l0_3 x4_1).f1) x8_3).f2).length c334_2) := (blk_cell BK335.out 2).trans rfl; have hcz85_3 : w83.cell? ⟨gb335, 3, none⟩ = some (.int .i64 ((rd_T64 ((rd_T52 l0_3 x4_1).f1) x8_3).f3)) := (blk_cell BK335.out 3).trans rfl; have hcz85_4 : w83.cell? ⟨gb335, 4, none⟩ = some (.int .i64 ((rd_T64 ((rd_T52 l0_3 x4_1).f1) x8_3).f4)) := (blk_cell BK335.out 4).trans rfl; have hfz85_0 := blk_frozen BK335.out 0; have hfz85_1 := blk_frozen BK335.out 1; have hfz85_2 := blk_frozen BK335.out 2; have hfz85_3 := blk_frozen BK335.out 3; have hfz85_4 := blk_frozen BK335.out 4) | ((with_reducible refine gate_store (t := 22) (p := 87) rfl ?_); refine store_event (t := 22) (p := 87) (v := ?vo_w86) (w1 := (w83.setCell ⟨gb335, 2, none⟩ (.slice Ao84 y339.length co84))) ?hg ?ho ?hn ?hr ?_; (case ho => rfl); (case hg => rfl); (case hn => rfl); (case hr => first | (go_simp; done) | (go_simp; rfl)); intro w86 hw; have n0_ : Aside0 (Kd.R (Kd.int .i64) 3 w86 w.heap.size (fun k_ => some k_ ≠ (.slice Ao36 y319.length co36 : Value).ownBlock ∧ some k_ ≠ (.slice Ao84 y339.length co84 : Value).ownBlock) (.slice Ao12 y310.length co12) y310) := ⟨(by rw [hw]; exact (by (with_reducible repeat (first | apply R_alloc | apply R_drewN | apply R_drew)); exact R_mono (Kd.R_far (p := ⟨gb335, 2, none⟩) (Kd.R_types HO_314002.out BK335.out (by decide)) (fun _ hk => hk.2) (.slice Ao84 y339.length co84)) (fun _ hk => ⟨hk.1.1, hk.1.2⟩)))⟩; have n1_ : Aside0 (Kd.R k52 52 w86 w.heap.size (fun k_ => some k_ ≠ (.slice Ao12 y310.length co12 : Value).ownBlock ∧ some k_ ≠ (u323000 : Value).ownBlock ∧ some k_ ≠ (u323001 : Value).ownBlock ∧ some k_ ≠ (.slice Ao36 y319.length co36 : Value).ownBlock ∧ some k_ ≠ (.slice Ao84 y339.length co84 : Value).ownBlock ∧ k_ ≠ gb315 ∧ k_ ≠ gb322 ∧ k_ ≠ gb335) u314003 x314003_1) := ⟨(by rw [hw]; exact (by (with_reducible repeat (first | apply R_alloc | apply R_drewN | apply R_drew)); exact R_mono (Kd.R_far (p := ⟨gb335, 2, none⟩) (R_mono HO_314003.out (fun k_ hk => (⟨hk, hk.1.2.2.2.2.2.2⟩ : _ ∧ k_ ≠ gb335))) (fun _ hk => hk.2) (.slice Ao84 y339.length co84)) (fun _ hk => ⟨hk.1.1.1, ⟨hk.1.1.2.1, ⟨hk.1.1.2.2.1, ⟨hk.1.1.2.2.2.1, ⟨hk.1.2, ⟨hk.1.1.2.2.2.2.1, ⟨hk.1.1.2.2.2.2.2.1, hk.1.1.2.2.2.2.2.2⟩⟩⟩⟩⟩⟩⟩)))⟩; have n2_ : Aside0 (Kd.S k62 62 w86 w.heap.size (fun k_ => some k_ ≠ (.slice Ao12 y310.length co12 : Value).ownBlock ∧ some k_ ≠ (.slice Ao36 y319.length co36 : Value).ownBlock ∧ some k_ ≠ (.slice Ao84 y339.length co84 : Value).ownBlock) u323000 x323000_2) := ⟨(by rw [hw]; exact (by (with_reducible repeat (first | apply S_alloc | apply S_drewN | apply S_drew)); exact S_mono (Kd.S_far (p := ⟨gb335, 2, none⟩) (Kd.S_types HO_323000.out BK335.out (by decide)) (fun _ hk => hk.2) (.slice Ao84 y339.length co84)) (fun _ hk => ⟨hk.1.1.1, ⟨hk.1.1.2, hk.1.2⟩⟩)))⟩; have n3_ : Aside0 (Kd.S k64 64 w86 w.heap.size (fun k_ => some k_ ≠ (.slice Ao12 y310.length co12 : Value).ownBlock ∧ some k_ ≠ (.slice Ao36 y319.length co36 : Value).ownBlock ∧ some k_ ≠ (.slice Ao84 y339.length co84 : Value).ownBlock ∧ k_ ≠ gb335) u323001 x323001_3) := ⟨(by rw [hw]; exact (by (with_reducible repeat (first | apply S_alloc | apply S_drewN | apply S_drew)); exact S_mono (Kd.S_far (p := ⟨gb335, 2, none⟩) (S_mono HO_323001.out (fun k_ hk => (⟨hk, hk.1.2.2⟩ : _ ∧ k_ ≠ gb335))) (fun _ hk => hk.2) (.slice Ao84 y339.length co84)) (fun _ hk => ⟨hk.1.1.1, ⟨hk.1.1.2.1, ⟨hk.1.2, hk.1.1.2.2⟩⟩⟩)))⟩; have n4_ : Aside0 (Kd.R (Kd.int .i64) 3 w86 w.heap.size (fun k_ => some k_ ≠ (.slice Ao12 y310.length co12 : Value).ownBlock ∧ some k_ ≠ (.slice Ao84 y339.length co84 : Value).ownBlock) (.slice Ao36 y319.length co36) y319) := ⟨(by rw [hw]; exact (by (with_reducible repeat (first | apply R_alloc | apply R_drewN | apply R_drew)); exact R_mono (Kd.R_far (p := ⟨gb335, 2, none⟩) (Kd.R_types HO_323004.out BK335.out (by decide)) (fun _ hk => hk.2) (.slice Ao84 y339.length co84)) (fun _ hk => ⟨hk.1.1, hk.1.2⟩)))⟩; have n5_ : Aside0 (Kd.R (Kd.int .i64) 3 w86 w.heap.size (fun k_ => some k_ ≠ (.slice Ao12 y310.length co12 : Value).ownBlock ∧ some k_ ≠ (.slice Ao36 y319.length co36 : Value).ownBlock) (.slice Ao84 y339.length co84) y339) := ⟨(by rw [hw]; exact (by (with_reducible repeat (first | apply R_alloc | apply R_drewN | apply R_drew)); exact R_mono (Kd.R_far (p := ⟨gb335, 2, none⟩) (Kd.R_types HO341.out BK335.out (by decide)) (fun _ hk => hk.2) (.slice Ao84 y339.length co84)) (fun _ hk => ⟨hk.1.1, hk.1.2⟩)))⟩; have n6_ : Aside0 (w86.heap[gb305]? = some (.cells #[.int .i64 a0_0, .int .i64 a0_1, .slice A0_2 l0_2.length c0_2, .slice (some ad314) l0_3.length c0_3] 25 (0, 0))) := ⟨(by rw [hw]; exact (by (with_reducible repeat (first | refine blk_drewN ?_ _ | refine blk_drew ?_ | refine blk_alloc ?_ _)); refine blk_far ?_ NB305_335.out _; (with_reducible repeat (first | refine blk_drewN ?_ _ | refine blk_drew ?_ | refine blk_alloc ?_ _)); exact BK305.out))⟩; have n7_ : Aside0 (w86.heap[gb306]? = some (.cells #[.int .i64 0, .int .i64 0, .slice none 0 0, .slice none 0 0] 25 (0, 0))) := ⟨(by rw [hw]; exact (by (with_reducible repeat (first | refine blk_drewN ?_ _ | refine blk_drew ?_ | refine blk_alloc ?_ _)); refine blk_far ?_ NB306_335.out _; (with_reducible repeat (first | refine blk_drewN ?_ _ | refine blk_drew ?_ | refine blk_alloc ?_ _)); exact BK306.out))⟩; have n8_ : Aside0 (w86.heap[gb313]? = some (.cells #[.int .i64 a0_0, .int .i64 a0_1, .slice Ao12 y310.length co12, u314003] 25 (0, 0))) := ⟨(by rw [hw]; exact (by (with_reducible repeat (first | refine blk_drewN ?_ _ | refine blk_drew ?_ | refine blk_alloc ?_ _)); refine blk_far ?_ NB313_335.out _; (with_reducible repeat (first | refine blk_drewN ?_ _ | refine blk_drew ?_ | refine blk_alloc ?_ _)); exact BK313.out))⟩; have n9_ : Aside0 (w86.heap[gb315]? = some (.cells #[.slice A314_0 ((rd_T52 l0_3 x4_1).f0).length c314_0, .slice (some ad334) ((rd_T52 l0_3 x4_1).f1).length c314_1, .int .i64 ((rd_T52 l0_3 x4_1).f2.f0), .int .i64 ((rd_T52 l0_3 x4_1).f2.f1), .slice A314_4 ((rd_T52 l0_3 x4_1).f2.f2).length c314_4] 52 (0, 0))) := ⟨(by rw [hw]; exact (by (with_reducible repeat (first | refine blk_drewN ?_ _ | refine blk_drew ?_ | refine blk_alloc ?_ _)); refine blk_far ?_ NB315_335.out _; (with_reducible repeat (first | refine blk_drewN ?_ _ | refine blk_drew ?_ | refine blk_alloc ?_ _)); exact BK315.out))⟩; have n10_ : Aside0 (w86.heap[gb322]? = some (.cells #[u323000, u323001, .int .i64 ((rd_T52 l0_3 x4_1).f2.f0), .int .i64 ((rd_T52 l0_3 x4_1).f2.f1), .slice Ao36 y319.length co36] 52 (0, 0))) := ⟨(by rw [hw]; exact (by (with_reducible repeat (first | refine blk_drewN ?_ _ | refine blk_drew ?_ | refine blk_alloc ?_ _)); refine blk_far ?_ NB322_335.out _; (with_reducible repeat (first | refine blk_drewN ?_ _ | refine blk_drew ?_ | refine blk_alloc ?_ _)); exact BK322.out))⟩; have n11_ : Aside0 (w86.heap[gb335]? = some (.cells #[.int .i64 ((rd_T64 ((rd_T52 l0_3 x4_1).f1) x8_3).f0), .int .i64 ((rd_T64 ((rd_T52 l0_3 x4_1).f1) x8_3).f1), .slice Ao84 y339.length co84, .int .i64 ((rd_T64 ((rd_T52 l0_3 x4_1).f1) x8_3).f3), .int .i64 ((rd_T64 ((rd_T52 l0_3 x4_1).f1) x8_3).f4)] 64 (0, 0))) := ⟨(by rw [hw]; exact (by (with_reducible repeat (first | refine blk_drewN ?_ _ | refine blk_drew ?_ | refine blk_alloc ?_ _)); refine blk_put (cs := #[.int .i64 ((rd_T64 ((rd_T52 l0_3 x4_1).f1) x8_3).f0), .int .i64 ((rd_T64 ((rd_T52 l0_3 x4_1).f1) x8_3).f1), .slice A334_2 ((rd_T64 ((rd_T52 l0_3 x4_1).f1) x8_3).f2).length c334_2, .int .i64 ((rd_T64 ((rd_T52 l0_3 x4_1).f1) x8_3).f3), .int .i64 ((rd_T64 ((rd_T52 l0_3 x4_1).f1) x8_3).f4)]) ?_ 2 _ rfl; (with_reducible repeat (first | refine blk_drewN ?_ _ | refine blk_drew ?_ | refine blk_alloc ?_ _)); exact BK335.out))⟩; have n12_ : Aside0 (Below w.heap.size w w86) := ⟨(by rw [hw]; exact (by repeat with_reducible first | exact HB.out | apply below_alloc | apply pw_below_drewN | apply below_drew1 | refine below_set ?_ GE305.out | refine below_set ?_ GE306.out | refine below_set ?_ GE313.out | refine below_set ?_ GE315.out | refine below_set ?_ GE322.out | refine below_set ?_ GE335.out))⟩; clear hw; clear HO_314002; clear HO_314003; clear HO_323000; clear HO_323001; clear HO_323004; clear HO341; clear BK305; clear BK306; clear BK313; clear BK315; clear BK322; clear BK335; clear HB; have HO_314002 := n0_; have HO_314003 := n1_; have HO_323000 := n2_; have HO_323001 := n3_; have HO_323004 := n4_; have HO341 := n5_; have BK305 := n6_; have BK306 := n7_; have BK313 := n8_; have BK315 := n9_; have BK322 := n10_; have BK335 := n11_; have HB := n12_; clear n0_ n1_ n2_ n3_ n4_ n5_ n6_ n7_ n8_ n9_ n10_ n11_ n12_; have hnb87 := NB322_305.out; have hnc87 := NB305_322.out; have hnb88 := NB322_306.out; have hnc88 := NB306_322.out; have hnb89 := NB322_313.out; have hnc89 := NB313_322.out; have hcz90_0 : w86.cell? ⟨gb322, 0, none⟩ = some (u323000) := (blk_cell BK322.out 0).trans rfl; have hcz90_1 : w86.cell? ⟨gb322, 1, none⟩ = some (u323001) := (blk_cell BK322.out 1).trans rfl; have hcz90_2 : w86.cell? ⟨gb322, 2, none⟩ = some (.int .i64 ((rd_T52 l0_3 x4_1).f2.f0)) := (blk_cell BK322.out 2).trans rfl; have hcz90_3 : w86.cell? ⟨gb322, 3, none⟩ = some (.int .i64 ((rd_T52 l0_3 x4_1).f2.f1)) := (blk_cell BK322.out 3).trans rfl; have hcz90_4 : w86.cell? ⟨gb322, 4, none⟩ = some (.slice Ao36 y319.length co36) := (blk_cell BK322.out 4).trans rfl; have hfz90_0 := blk_frozen BK322.out 0; have hfz90_1 := blk_frozen BK322.out 1; have hfz90_2 := blk_frozen BK322.out 2; have hfz90_3 := blk_frozen BK322.out 3; have hfz90_4 := blk_frozen BK322.out 4; have hcz91_0 : w86.cell? ⟨gb335, 0, none⟩ = some (.int .i64 ((rd_T64 ((rd_T52 l0_3 x4_1).f1) x8_3).f0)) := (blk_cell BK335.out 0).trans rfl; have hcz91_1 : w86.cell? ⟨gb335, 1, none⟩ = some (.int .i64 ((rd_T64 ((rd_T52 l0_3 x4_1).f1) x8_3).f1)) := (blk_cell BK335.out 1).trans rfl; have hcz91_2 : w86.cell? ⟨gb335, 2, none⟩ = some (.slice Ao84 y339.length co84) := (blk_cell BK335.out 2).trans rfl; have hcz91_3 : w86.cell? ⟨gb335, 3, none⟩ = some (.int .i64 ((rd_T64 ((rd_T52 l0_3 x4_1).f1) x8_3).f3)) := (blk_cell BK335.out 3).trans rfl; have hcz91_4 : w86.cell? ⟨gb335, 4, none⟩ = some (.int .i64 ((rd_T64 ((rd_T52 l0_3 x4_1).f1) x8_3).f4)) := (blk_cell BK335.out 4).trans rfl; have hfz91_0 := blk_frozen BK335.out 0; have hfz91_1 := blk_frozen BK335.out 1; have hfz91_2 := blk_frozen BK335.out 2; have hfz91_3 := blk_frozen BK335.out 3; have hfz91_4 := blk_frozen BK335.out 4) | ((with_reducible refine gate_builtin (b := .append) (xs := #[.tmp 89, .tmp 91]) rfl ?_); at_builtin; refine Kd.S_append k64 (w0 := w) w.heap.size rfl (.tmp 89) (.tmp 91) 50 64 (.agg #[(.int .i64 0), (.int .i64 0), (.slice none 0 0), (.int .i64 0), (.int .i64 0)]) 56 rfl Try.underlying50 info64 rfl (by decide) (by omega) u323001 x323001_3 (⟨(rd_T64 ((rd_T52 l0_3 x4_1).f1) x8_3).f0, (rd_T64 ((rd_T52 l0_3 x4_1).f1) x8_3).f1, y339, (rd_T64 ((rd_T52 l0_3 x4_1).f1) x8_3).f3, (rd_T64 ((rd_T52 l0_3 x4_1).f1) x8_3).f4⟩ : S64) [.int .i64 ((rd_T64 ((rd_T52 l0_3 x4_1).f1) x8_3).f0), .int .i64 ((rd_T64 ((rd_T52 l0_3 x4_1).f1) x8_3).f1), .slice Ao84 y339.length co84, .int .i64 ((rd_T64 ((rd_T52 l0_3 x4_1).f1) x8_3).f3), .int .i64 ((rd_T64 ((rd_T52 l0_3 x4_1).f1) x8_3).f4)] (fun k_ => some k_ ≠ (.slice Ao12 y310.length co12 : Value).ownBlock ∧ some k_ ≠ (.slice Ao36 y319.length co36 : Value).ownBlock ∧ k_ ≠ gb335) (fun k_ => some k_ = (.slice Ao84 y339.length co84 : Value).ownBlock) rfl rfl ?aP (fun k_ hk_ => ((R_mono (ok' := fun k_ => ((fun k_ => some k_ ≠ (.slice Ao12 y310.length co12 : Value).ownBlock ∧ some k_ ≠ (.slice Ao36 y319.length co36 : Value).ownBlock ∧ k_ ≠ gb335)) k_ ∧ some k_ ≠ (u323001 : Value).ownBlock) (Kd.R_types (Kd.R_apart' (HO341.out) (Kd.S_typed HO_323001.out) (by decide)) BK335.out (by decide)) (fun k_ hk => ⟨⟨hk.1.1.1, ⟨hk.1.1.2, hk.2⟩⟩, hk.1.2⟩))).1 k_ hk_.symm) ?aF ?aO ?aB ?aS ?aL ?_; (case aP => exact k64_mkM _ _ _ (⟨(rd_T64 ((rd_T52 l0_3 x4_1).f1) x8_3).f0, (rd_T64 ((rd_T52 l0_3 x4_1).f1) x8_3).f1, y339, (rd_T64 ((rd_T52 l0_3 x4_1).f1) x8_3).f3, (rd_T64 ((rd_T52 l0_3 x4_1).f1) x8_3).f4⟩ : S64) (R_mono (Kd.R_tight rfl (R_mono (ok' := fun k_ => ((fun k_ => some k_ ≠ (.slice Ao12 y310.length co12 : Value).ownBlock ∧ some k_ ≠ (.slice Ao36 y319.length co36 : Value).ownBlock ∧ k_ ≠ gb335)) k_ ∧ some k_ ≠ (u323001 : Value).ownBlock) (Kd.R_types (Kd.R_apart' (HO341.out) (Kd.S_typed HO_323001.out) (by decide)) BK335.out (by decide)) (fun k_ hk => ⟨⟨hk.1.1.1, ⟨hk.1.1.2, hk.2⟩⟩, hk.1.2⟩))) (fun _ h_ => h_))); (case aB => exact (by repeat with_reducible first | exact HB.out | apply below_alloc | apply pw_below_drewN | apply below_drew1 | refine below_set ?_ GE305.out | refine below_set ?_ GE306.out | refine below_set ?_ GE313.out | refine below_set ?_ GE315.out | refine below_set ?_ GE322.out | refine below_set ?_ GE335.out)); (case aF => exact (fun k_ hk => ⟨Kd.fresh' (R_lt (by (with_reducible repeat (first | apply R_alloc | apply R_drewN | apply R_drew)); exact HO_314002.out)) k_ hk, Kd.fresh' (R_lt (by (with_reducible repeat (first | apply R_alloc | apply R_drewN | apply R_drew)); exact HO_323004.out)) k_ hk, Kd.freshB (g := gb335) (o := .cells #[.int .i64 ((rd_T64 ((rd_T52 l0_3 x4_1).f1) x8_3).f0), .int .i64 ((rd_T64 ((rd_T52 l0_3 x4_1).f1) x8_3).f1), .slice Ao84 y339.length co84, .int .i64 ((rd_T64 ((rd_T52 l0_3 x4_1).f1) x8_3).f3), .int .i64 ((rd_T64 ((rd_T52 l0_3 x4_1).f1) x8_3).f4)] 64 (0, 0)) (by (with_reducible repeat (first | refine blk_drewN ?_ _ | refine blk_drew ?_ | refine blk_alloc ?_ _)); exact BK335.out) k_ hk⟩)); (case aO => exact (by (with_reducible repeat (first | apply S_alloc | apply S_drewN | apply S_drew)); exact S_mono HO_323001.out (fun k_ hk => ⟨⟨hk.1, ⟨hk.2.1, hk.2.2.2⟩⟩, fun e_ => hk.2.2.1 e_⟩))); (case aS => exact (below_size (by repeat with_reducible first | exact HB.out | apply below_alloc | apply pw_below_drewN | apply below_drew1 | refine below_set ?_ GE305.out | refine below_set ?_ GE306.out | refine below_set ?_ GE313.out | refine below_set ?_ GE315.out | refine below_set ?_ GE322.out | refine below_set ?_ GE335.out))); (case aL => have := LMc67.out; omega); intro v343 w92 ho hb hg hat; rw [← Ny342.out] at ho; have n0_ := Aside0.mk (Kd.R_over' (by (with_reducible repeat (first | apply R_alloc | apply R_drewN | apply R_drew)); exact HO_314002.out) (Kd.S_typed (by (with_reducible repeat (first | apply S_alloc | apply S_drewN | apply S_drew)); exact HO_323001.out)) (by decide) hg); have n1_ := Aside0.mk (Kd.R_after (ok := (fun k_ => some k_ ≠ (.slice Ao12 y310.length co12 : Value).ownBlock ∧ some k_ ≠ (u323000 : Value).ownBlock ∧ some k_ ≠ (.slice Ao36 y319.length co36 : Value).ownBlock ∧ some k_ ≠ (.slice Ao84 y339.length co84 : Value).ownBlock ∧ k_ ≠ gb315 ∧ k_ ≠ gb322 ∧ k_ ≠ gb335)) (by (with_reducible repeat (first | apply R_alloc | apply R_drewN | apply R_drew)); exact R_mono HO_314003.out (fun _ hk => ⟨⟨hk.1, ⟨hk.2.1, ⟨hk.2.2.2.1, ⟨hk.2.2.2.2.1, ⟨hk.2.2.2.2.2.1, ⟨hk.2.2.2.2.2.2.1, hk.2.2.2.2.2.2.2⟩⟩⟩⟩⟩⟩, hk.2.2.1⟩)) hg hat); have n2_ := Aside0.mk (Kd.S_over' (by (with_reducible repeat (first | apply S_alloc | apply S_drewN | apply S_drew)); exact HO_323000.out) (Kd.S_typed (by (with_reducible repeat (first | apply S_alloc | apply S_drewN | apply S_drew)); exact HO_323001.out)) (by decide) hg); have n3_ := Aside0.mk (Kd.R_over' (by (with_reducible repeat (first | apply R_alloc | apply R_drewN | apply R_drew)); exact HO_323004.out) (Kd.S_typed (by (with_reducible repeat (first | apply S_alloc | apply S_drewN | apply S_drew)); exact HO_323001.out)) (by decide) hg); have n4_ := Aside0.mk (blk_grown (g := gb305) (o := .cells #[.int .i64 a0_0, .int .i64 a0_1, .slice A0_2 l0_2.length c0_2, .slice (some ad314) l0_3.length c0_3] 25 (0, 0)) (by (with_reducible repeat (first | refine blk_drewN ?_ _ | refine blk_drew ?_ | refine blk_alloc ?_ _)); exact BK305.out) hg (Kd.S_ne HO_323001.out BK305.out (by decide))); have n5_ := Aside0.mk (blk_grown (g := gb306) (o := .cells #[.int .i64 0, .int .i64 0, .slice none 0 0, .slice none 0 0] 25 (0, 0)) (by (with_reducible repeat (first | refine blk_drewN ?_ _ | refine blk_drew ?_ | refine blk_alloc ?_ _)); exact BK306.out) hg (Kd.S_ne HO_323001.out BK306.out (by decide))); have n6_ := Aside0.mk (blk_grown (g := gb313) (o := .cells #[.int .i64 a0_0, .int .i64 a0_1, .slice Ao12 y310.length co12, u314003] 25 (0, 0)) (by (with_reducible repeat (first | refine blk_drewN ?_ _ | refine blk_drew ?_ | refine blk_alloc ?_ _)); exact BK313.out) hg (Kd.S_ne HO_323001.out BK313.out (by decide))); have n7_ := Aside0.mk (blk_grown (g := gb315) (o := .cells #[.slice A314_0 ((rd_T52 l0_3 x4_1).f0).length c314_0, .slice (some ad334) ((rd_T52 l0_3 x4_1).f1).length c314_1, .int .i64 ((rd_T52 l0_3 x4_1).f2.f0), .int .i64 ((rd_T52 l0_3 x4_1).f2.f1), .slice A314_4 ((rd_T52 l0_3 x4_1).f2.f2).length c314_4] 52 (0, 0)) (by (with_reducible repeat (first | refine blk_drewN ?_ _ | refine blk_drew ?_ | refine blk_alloc ?_ _)); exact BK315.out) hg (Kd.S_ne HO_323001.out BK315.out (by decide))); have n8_ := Aside0.mk (blk_grown (g := gb322) (o := .cells #[u323000, u323001, .int .i64 ((rd_T52 l0_3 x4_1).f2.f0), .int .i64 ((rd_T52 l0_3 x4_1).f2.f1), .slice Ao36 y319.length co36] 52 (0, 0)) (by (with_reducible repeat (first | refine blk_drewN ?_ _ | refine blk_drew ?_ | refine blk_alloc ?_ _)); exact BK322.out) hg (Kd.S_ne HO_323001.out BK322.out (by decide))); have n9_ := Aside0.mk (blk_grown (g := gb335) (o := .cells #[.int .i64 ((rd_T64 ((rd_T52 l0_3 x4_1).f1) x8_3).f0), .int .i64 ((rd_T64 ((rd_T52 l0_3 x4_1).f1) x8_3).f1), .slice Ao84 y339.length co84, .int .i64 ((rd_T64 ((rd_T52 l0_3 x4_1).f1) x8_3).f3), .int .i64 ((rd_T64 ((rd_T52 l0_3 x4_1).f1) x8_3).f4)] 64 (0, 0)) (by (with_reducible repeat (first | refine blk_drewN ?_ _ | refine blk_drew ?_ | refine blk_alloc ?_ _)); exact BK335.out) hg (Kd.S_away HO_323001.out (fun _ hk => hk.2.2.2))); have n10_ := Aside0.mk (hb); have n11_ := Aside0.mk (ho); clear HO_314002; clear HO_314003; clear HO_323000; clear HO_323004; clear BK305; clear BK306; clear BK313; clear BK315; clear BK322; clear BK335; clear HB; clear HO_323001; clear HO341; have HO_314002 := n0_; have HO_314003 := n1_; have HO_323000 := n2_; have HO_323004 := n3_; have BK305 := n4_; have BK306 := n5_; have BK313 := n6_; have BK315 := n7_; have BK322 := n8_; have BK335 := n9_; have HB := n10_; have HO344 := n11_; clear n0_ n1_ n2_ n3_ n4_ n5_ n6_ n7_ n8_ n9_ n10_ n11_; clear ho hb hg hat; obtain ⟨Ao93, co93, eo93⟩ := Kd.S_slice HO344.out; subst eo93; have hcz94_0 : w92.cell? ⟨gb322, 0, none⟩ = some (u323000) := (blk_cell BK322.out 0).trans rfl; have hcz94_1 : w92.cell? ⟨gb322, 1, none⟩ = some (u323001) := (blk_cell BK322.out 1).trans rfl; have hcz94_2 : w92.cell? ⟨gb322, 2, none⟩ = some (.int .i64 ((rd_T52 l0_3 x4_1).f2.f0)) := (blk_cell BK322.out 2).trans rfl; have hcz94_3 : w92.cell? ⟨gb322, 3, none⟩ = some (.int .i64 ((rd_T52 l0_3 x4_1).f2.f1)) := (blk_cell BK322.out 3).trans rfl; have hcz94_4 : w92.cell? ⟨gb322, 4, none⟩ = some (.slice Ao36 y319.length co36) := (blk_cell BK322.out 4).trans rfl; have hfz94_0 := blk_frozen BK322.out 0; have hfz94_1 := blk_frozen BK322.out 1; have hfz94_2 := blk_frozen BK322.out 2; have hfz94_3 := blk_frozen BK322.out 3; have hfz94_4 := blk_frozen BK322.out 4))
      go_roundg k3
      case measure => have := HK1.out; have := HK2.out; have := HK3.out; omega
      case rel => exact ⟨(wrap64 (x8_3 + 1)), (y342), (.slice Ao93 y342.length co93), (by first | rfl | (simp; done) | (simp [*]; done)), H', ⟨by have := HK1.out; have := HK2.out; have := HK3.out; omega⟩, ⟨by (with_reducible repeat (first | apply R_alloc | apply R_drewN | apply R_drew)); exact R_mono (Kd.R_far (p := ⟨gb322, 1, none⟩) (Kd.R_types HO_314002.out BK322.out (by decide)) (fun _ hk => hk.2) (.slice Ao93 y342.length co93)) (fun _ hk => hk.1.1)⟩, ⟨by (with_reducible repeat (first | apply R_alloc | apply R_drewN | apply R_drew)); exact R_mono (Kd.R_far (p := ⟨gb322, 1, none⟩) (R_mono HO_314003.out (fun k_ hk => (⟨hk, hk.1.2.2.2.2.2.1⟩ : _ ∧ k_ ≠ gb322))) (fun _ hk => hk.2) (.slice Ao93 y342.length co93)) (fun _ hk => ⟨hk.1.1.1, ⟨hk.1.1.2.1, ⟨hk.1.2, ⟨hk.1.1.2.2.1, ⟨hk.1.1.2.2.2.2.1, hk.1.1.2.2.2.2.2.1⟩⟩⟩⟩⟩)⟩, ⟨by (with_reducible repeat (first | apply S_alloc | apply S_drewN | apply S_drew)); exact S_mono (Kd.S_far (p := ⟨gb322, 1, none⟩) (Kd.S_types HO_323000.out BK322.out (by decide)) (fun _ hk => hk.2) (.slice Ao93 y342.length co93)) (fun _ hk => ⟨hk.1.1, hk.1.2.1⟩)⟩, ⟨by (with_reducible repeat (first | apply S_alloc | apply S_drewN | apply S_drew)); exact S_mono (Kd.S_far (p := ⟨gb322, 1, none⟩) (Kd.S_types HO344.out BK322.out (by decide)) (fun _ hk => hk.2) (.slice Ao93 y342.length co93)) (fun _ hk => ⟨hk.1.1, hk.1.2.1⟩)⟩, ⟨by (with_reducible repeat (first | apply R_alloc | apply R_drewN | apply R_drew)); exact R_mono (Kd.R_far (p := ⟨gb322, 1, none⟩) (Kd.R_types HO_323004.out BK322.out (by decide)) (fun _ hk => hk.2) (.slice Ao93 y342.length co93)) (fun _ hk => hk.1.1)⟩, ⟨by (with_reducible repeat (first | refine blk_drewN ?_ _ | refine blk_drew ?_ | refine blk_alloc ?_ _)); refine blk_far ?_ NB305_322.out _; (with_reducible repeat (first | refine blk_drewN ?_ _ | refine blk_drew ?_ | refine blk_alloc ?_ _)); exact BK305.out⟩, ⟨by (with_reducible repeat (first | refine blk_drewN ?_ _ | refine blk_drew ?_ | refine blk_alloc ?_ _)); refine blk_far ?_ NB306_322.out _; (with_reducible repeat (first | refine blk_drewN ?_ _ | refine blk_drew ?_ | refine blk_alloc ?_ _)); exact BK306.out⟩, ⟨by (with_reducible repeat (first | refine blk_drewN ?_ _ | refine blk_drew ?_ | refine blk_alloc ?_ _)); refine blk_far ?_ NB313_322.out _; (with_reducible repeat (first | refine blk_drewN ?_ _ | refine blk_drew ?_ | refine blk_alloc ?_ _)); exact BK313.out⟩, ⟨by (with_reducible repeat (first | refine blk_drewN ?_ _ | refine blk_drew ?_ | refine blk_alloc ?_ _)); refine blk_far ?_ NB315_322.out _; (with_reducible repeat (first | refine blk_drewN ?_ _ | refine blk_drew ?_ | refine blk_alloc ?_ _)); exact BK315.out⟩, ⟨by (with_reducible repeat (first | refine blk_drewN ?_ _ | refine blk_drew ?_ | refine blk_alloc ?_ _)); refine blk_put (cs := #[u323000, u323001, .int .i64 ((rd_T52 l0_3 x4_1).f2.f0), .int .i64 ((rd_T52 l0_3 x4_1).f2.f1), .slice Ao36 y319.length co36]) ?_ 1 _ rfl; (with_reducible repeat (first | refine blk_drewN ?_ _ | refine blk_drew ?_ | refine blk_alloc ?_ _)); exact BK322.out⟩, ⟨by repeat (first | (with_reducible first | exact HB.out | apply below_alloc | apply pw_below_drewN | apply below_drew1 | refine below_set ?_ GE305.out | refine below_set ?_ GE306.out | refine below_set ?_ GE313.out | refine below_set ?_ GE315.out | refine below_set ?_ GE322.out | refine below_set ?_ GE335.out) | exact HB.out)⟩⟩
    rw [if_neg c64] at H
    have c64b0 : decide (x8_3 < (((rd_T52 l0_3 x4_1).f1).length : Int)) = false := decide_eq_false c64
    clear c64
    by_cases c95 : x314003_1.length < 1599289640401
    rotate_left
    · rw [if_neg c95] at H
      exact absurd H (by simp)
    rw [if_pos c95] at H
    have LMc95 := Aside0.mk c95
    clear c95
    obtain ⟨y345, hy345⟩ : ∃ y_ : List (S52), y_ = (x314003_1 ++ [(⟨x323000_2, x323001_3, (⟨((rd_T52 l0_3 x4_1).f2.f0), ((rd_T52 l0_3 x4_1).f2.f1), y319⟩ : S47)⟩ : S52)]) := ⟨_, rfl⟩
    replace H : (fettleref02_CopyFunc.l0 k3 (wrap64 (x4_1 + 1)) a0_0 a0_1 l0_2 l0_3 a0_0 a0_1 y310 y345) = some (r1, r2, r3, r4) := by first | (rw [hy345]; with_reducible exact H) | (have H2_ := (Option.bind_some _ _).symm.trans H; rw [hy345]; with_reducible exact H2_) | exact H
    have Ny345 := Aside0.mk hy345
    clear hy345
    have H' := Aside0.mk H
    clear H
    have hnb96 := NB315_305.out
    have hnc96 := NB305_315.out
    have hnb97 := NB315_306.out
    have hnc97 := NB306_315.out
    have hnb98 := NB315_313.out
    have hnc98 := NB313_315.out
    have hnb99 := NB315_322.out
    have hnc99 := NB322_315.out
    have hcz100_0 : wr.cell? ⟨gb315, 0, none⟩ = some (.slice A314_0 ((rd_T52 l0_3 x4_1).f0).length c314_0) := (blk_cell BK315.out 0).trans rfl
    have hcz100_1 : wr.cell? ⟨gb315, 1, none⟩ = some (.slice A314_1 ((rd_T52 l0_3 x4_1).f1).length c314_1) := (blk_cell BK315.out 1).trans rfl
    have hcz100_2 : wr.cell? ⟨gb315, 2, none⟩ = some (.int .i64 ((rd_T52 l0_3 x4_1).f2.f0)) := (blk_cell BK315.out 2).trans rfl
    have hcz100_3 : wr.cell? ⟨gb315, 3, none⟩ = some (.int .i64 ((rd_T52 l0_3 x4_1).f2.f1)) := (blk_cell BK315.out 3).trans rfl
    have hcz100_4 : wr.cell? ⟨gb315, 4, none⟩ = some (.slice A314_4 ((rd_T52 l0_3 x4_1).f2.f2).length c314_4) := (blk_cell BK315.out 4).trans rfl
    have hfz100_0 := blk_frozen BK315.out 0
    have hfz100_1 := blk_frozen BK315.out 1
    have hfz100_2 := blk_frozen BK315.out 2
    have hfz100_3 := blk_frozen BK315.out 3
    have hfz100_4 := blk_frozen BK315.out 4
    have hnb101 := NB313_305.out
    have hnc101 := NB305_313.out
    have hnb102 := NB313_306.out
    have hnc102 := NB306_313.out
    have hnb103 := NB313_322.out
    have hnc103 := NB322_313.out
    have hcz104_0 : wr.cell? ⟨gb313, 0, none⟩ = some (.int .i64 a0_0) := (blk_cell BK313.out 0).trans rfl
    have hcz104_1 : wr.cell? ⟨gb313, 1, none⟩ = some (.int .i64 a0_1) := (blk_cell BK313.out 1).trans rfl
    have hcz104_2 : wr.cell? ⟨gb313, 2, none⟩ = some (.slice Ao12 y310.length co12) := (blk_cell BK313.out 2).trans rfl
    have hcz104_3 : wr.cell? ⟨gb313, 3, none⟩ = some (u314003) := (blk_cell BK313.out 3).trans rfl
    have hfz104_0 := blk_frozen BK313.out 0
    have hfz104_1 := blk_frozen BK313.out 1
    have hfz104_2 := blk_frozen BK313.out 2
    have hfz104_3 := blk_frozen BK313.out 3
    have hnb105 := NB322_305.out
    have hnc105 := NB305_322.out
    have hnb106 := NB322_306.out
    have hnc106 := NB306_322.out
    have hcz107_0 : wr.cell? ⟨gb322, 0, none⟩ = some (u323000) := (blk_cell BK322.out 0).trans rfl
    have hcz107_1 : wr.cell? ⟨gb322, 1, none⟩ = some (u323001) := (blk_cell BK322.out 1).trans rfl
    have hcz107_2 : wr.cell? ⟨gb322, 2, none⟩ = some (.int .i64 ((rd_T52 l0_3 x4_1).f2.f0)) := (blk_cell BK322.out 2).trans rfl
    have hcz107_3 : wr.cell? ⟨gb322, 3, none⟩ = some (.int .i64 ((rd_T52 l0_3 x4_1).f2.f1)) := (blk_cell BK322.out 3).trans rfl
    have hcz107_4 : wr.cell? ⟨gb322, 4, none⟩ = some (.slice Ao36 y319.length co36) := (blk_cell BK322.out 4).trans rfl
    have hfz107_0 := blk_frozen BK322.out 0
    have hfz107_1 := blk_frozen BK322.out 1
    have hfz107_2 := blk_frozen BK322.out 2
    have hfz107_3 := blk_frozen BK322.out 3
    have hfz107_4 := blk_frozen BK322.out 4
    obtain ⟨Ao109, co109, eo109⟩ := Kd.S_slice HO_323000.out
    subst eo109
    obtain ⟨Ao110, co110, eo110⟩ := Kd.S_slice HO_323001.out
    subst eo110
    go_wp2_with (first | ((with_reducible refine gate_builtin (b := .append) (xs := #[.tmp 95, .tmp 97]) rfl ?_); at_builtin; refine Kd.R_append k52 (w0 := w) w.heap.size rfl (.tmp 95) (.tmp 97) 23 52 (.agg #[(.slice none 0 0), (.slice none 0 0), (.int .i64 0), (.int .i64 0), (.slice none 0 0)]) 88 rfl Try.underlying23 info52 rfl (by decide) (by omega) u314003 x314003_1 (⟨x323000_2, x323001_3, (⟨((rd_T52 l0_3 x4_1).f2.f0), ((rd_T52 l0_3 x4_1).f2.f1), y319⟩ : S47)⟩ : S52) [.slice Ao109 x323000_2.length co109, .slice Ao110 x323001_3.length co110, .int .i64 ((rd_T52 l0_3 x4_1).f2.f0), .int .i64 ((rd_T52 l0_3 x4_1).f2.f1), .slice Ao36 y319.length co36] (fun k_ => some k_ ≠ (.slice Ao12 y310.length co12 : Value).ownBlock ∧ k_ ≠ gb315 ∧ k_ ≠ gb322) (fun k_ => ((fun k_ => some k_ ≠ (.slice Ao12 y310.length co12 : Value).ownBlock ∧ k_ ≠ gb315 ∧ k_ ≠ gb322)) k_ ∧ some k_ ≠ (u314003 : Value).ownBlock) rfl rfl ?aP (fun _ hk => hk) ?aF ?aO ?aB ?aS ?aL ?_; (case aP => exact k52_mkM _ _ _ (⟨x323000_2, x323001_3, (⟨((rd_T52 l0_3 x4_1).f2.f0), ((rd_T52 l0_3 x4_1).f2.f1), y319⟩ : S47)⟩ : S52) (R_mono (Kd.R_types (Kd.R_types (Kd.R_apart' ((Kd.S_R HO_323000.out)) (Kd.R_typed HO_314003.out) (by decide)) BK315.out (by decide)) BK322.out (by decide)) (fun k_ hk => ⟨⟨hk.1.1.1.1, ⟨hk.1.2, hk.2⟩⟩, hk.1.1.2⟩)) (R_mono (Kd.R_types (Kd.R_types (Kd.R_apart' ((Kd.S_R HO_323001.out)) (Kd.R_typed HO_314003.out) (by decide)) BK315.out (by decide)) BK322.out (by decide)) (fun k_ hk => ⟨⟨hk.1.1.1.1, ⟨hk.1.2, hk.2⟩⟩, hk.1.1.2⟩)) (R_mono (Kd.R_types (Kd.R_types (Kd.R_apart' (HO_323004.out) (Kd.R_typed HO_314003.out) (by decide)) BK315.out (by decide)) BK322.out (by decide)) (fun k_ hk => ⟨⟨hk.1.1.1, ⟨hk.1.2, hk.2⟩⟩, hk.1.1.2⟩))); (case aB => exact (by repeat with_reducible first | exact HB.out | apply below_alloc | apply pw_below_drewN | apply below_drew1 | refine below_set ?_ GE305.out | refine below_set ?_ GE306.out | refine below_set ?_ GE313.out | refine below_set ?_ GE315.out | refine below_set ?_ GE322.out)); (case aF => exact (fun k_ hk => ⟨Kd.fresh' (R_lt (by (with_reducible repeat (first | apply R_alloc | apply R_drewN | apply R_drew)); exact HO_314002.out)) k_ hk, Kd.freshB (g := gb315) (o := .cells #[.slice A314_0 ((rd_T52 l0_3 x4_1).f0).length c314_0, .slice A314_1 ((rd_T52 l0_3 x4_1).f1).length c314_1, .int .i64 ((rd_T52 l0_3 x4_1).f2.f0), .int .i64 ((rd_T52 l0_3 x4_1).f2.f1), .slice A314_4 ((rd_T52 l0_3 x4_1).f2.f2).length c314_4] 52 (0, 0)) (by (with_reducible repeat (first | refine blk_drewN ?_ _ | refine blk_drew ?_ | refine blk_alloc ?_ _)); exact BK315.out) k_ hk, Kd.freshB (g := gb322) (o := .cells #[.slice Ao109 x323000_2.length co109, .slice Ao110 x323001_3.length co110, .int .i64 ((rd_T52 l0_3 x4_1).f2.f0), .int .i64 ((rd_T52 l0_3 x4_1).f2.f1), .slice Ao36 y319.length co36] 52 (0, 0)) (by (with_reducible repeat (first | refine blk_drewN ?_ _ | refine blk_drew ?_ | refine blk_alloc ?_ _)); exact BK322.out) k_ hk⟩)); (case aO => exact (by (with_reducible repeat (first | apply R_alloc | apply R_drewN | apply R_drew)); exact R_mono HO_314003.out (fun _ hk => ⟨hk.1, ⟨hk.2.2.2.2.1, hk.2.2.2.2.2⟩⟩))); (case aS => exact (below_size (by repeat with_reducible first | exact HB.out | apply below_alloc | apply pw_below_drewN | apply below_drew1 | refine below_set ?_ GE305.out | refine below_set ?_ GE306.out | refine below_set ?_ GE313.out | refine below_set ?_ GE315.out | refine below_set ?_ GE322.out))); (case aL => have := LMc95.out; omega); intro v346 w108 ho hb hg hat; rw [← Ny345.out] at ho; have n0_ := Aside0.mk (Kd.R_over' (by (with_reducible repeat (first | apply R_alloc | apply R_drewN | apply R_drew)); exact HO_314002.out) (Kd.R_typed (by (with_reducible repeat (first | apply R_alloc | apply R_drewN | apply R_drew)); exact HO_314003.out)) (by decide) hg); have n1_ := Aside0.mk (blk_grown (g := gb305) (o := .cells #[.int .i64 a0_0, .int .i64 a0_1, .slice A0_2 l0_2.length c0_2, .slice (some ad314) l0_3.length c0_3] 25 (0, 0)) (by (with_reducible repeat (first | refine blk_drewN ?_ _ | refine blk_drew ?_ | refine blk_alloc ?_ _)); exact BK305.out) hg (Kd.R_ne HO_314003.out BK305.out (by decide))); have n2_ := Aside0.mk (blk_grown (g := gb306) (o := .cells #[.int .i64 0, .int .i64 0, .slice none 0 0, .slice none 0 0] 25 (0, 0)) (by (with_reducible repeat (first | refine blk_drewN ?_ _ | refine blk_drew ?_ | refine blk_alloc ?_ _)); exact BK306.out) hg (Kd.R_ne HO_314003.out BK306.out (by decide))); have n3_ := Aside0.mk (blk_grown (g := gb313) (o := .cells #[.int .i64 a0_0, .int .i64 a0_1, .slice Ao12 y310.length co12, u314003] 25 (0, 0)) (by (with_reducible repeat (first | refine blk_drewN ?_ _ | refine blk_drew ?_ | refine blk_alloc ?_ _)); exact BK313.out) hg (Kd.R_ne HO_314003.out BK313.out (by decide))); have n4_ := Aside0.mk (blk_grown (g := gb315) (o := .cells #[.slice A314_0 ((rd_T52 l0_3 x4_1).f0).length c314_0, .slice A314_1 ((rd_T52 l0_3 x4_1).f1).length c314_1, .int .i64 ((rd_T52 l0_3 x4_1).f2.f0), .int .i64 ((rd_T52 l0_3 x4_1).f2.f1), .slice A314_4 ((rd_T52 l0_3 x4_1).f2.f2).length c314_4] 52 (0, 0)) (by (with_reducible repeat (first | refine blk_drewN ?_ _ | refine blk_drew ?_ | refine blk_alloc ?_ _)); exact BK315.out) hg (Kd.R_away HO_314003.out (fun _ hk => hk.2.2.2.2.1))); have n5_ := Aside0.mk (blk_grown (g := gb322) (o := .cells #[.slice Ao109 x323000_2.length co109, .slice Ao110 x323001_3.length co110, .int .i64 ((rd_T52 l0_3 x4_1).f2.f0), .int .i64 ((rd_T52 l0_3 x4_1).f2.f1), .slice Ao36 y319.length co36] 52 (0, 0)) (by (with_reducible repeat (first | refine blk_drewN ?_ _ | refine blk_drew ?_ | refine blk_alloc ?_ _)); exact BK322.out) hg (Kd.R_away HO_314003.out (fun _ hk => hk.2.2.2.2.2))); have n6_ := Aside0.mk (hb); have n7_ := Aside0.mk (ho); clear HO_314002; clear BK305; clear BK306; clear BK313; clear BK315; clear BK322; clear HB; clear HO_314003; clear HO_323000; clear HO_323001; clear HO_323004; have HO_314002 := n0_; have BK305 := n1_; have BK306 := n2_; have BK313 := n3_; have BK315 := n4_; have BK322 := n5_; have HB := n6_; have HO347 := n7_; clear n0_ n1_ n2_ n3_ n4_ n5_ n6_ n7_; clear ho hb hg hat; obtain ⟨Ao111, co111, eo111⟩ := Kd.R_slice HO347.out; subst eo111; have hcz112_0 : w108.cell? ⟨gb313, 0, none⟩ = some (.int .i64 a0_0) := (blk_cell BK313.out 0).trans rfl; have hcz112_1 : w108.cell? ⟨gb313, 1, none⟩ = some (.int .i64 a0_1) := (blk_cell BK313.out 1).trans rfl; have hcz112_2 : w108.cell? ⟨gb313, 2, none⟩ = some (.slice Ao12 y310.length co12) := (blk_cell BK313.out 2).trans rfl; have hcz112_3 : w108.cell? ⟨gb313, 3, none⟩ = some (u314003) := (blk_cell BK313.out 3).trans rfl; have hfz112_0 := blk_frozen BK313.out 0; have hfz112_1 := blk_frozen BK313.out 1; have hfz112_2 := blk_frozen BK313.out 2; have hfz112_3 := blk_frozen BK313.out 3))
    go_roundg k3
    case measure => have := HK1.out; have := HK2.out; have := HK3.out; omega
    case rel => exact ⟨(wrap64 (x4_1 + 1)), (y345), (.slice Ao111 y345.length co111), (by first | rfl | (simp; done) | (simp [*]; done)), H', ⟨by have := HK1.out; have := HK2.out; have := HK3.out; omega⟩, ⟨by (with_reducible repeat (first | apply R_alloc | apply R_drewN | apply R_drew)); exact R_mono (Kd.R_far (p := ⟨gb313, 3, none⟩) (Kd.R_types HO_314002.out BK313.out (by decide)) (fun _ hk => hk.2) (.slice Ao111 y345.length co111)) (fun _ hk => trivial)⟩, ⟨by (with_reducible repeat (first | apply R_alloc | apply R_drewN | apply R_drew)); exact R_mono (Kd.R_far (p := ⟨gb313, 3, none⟩) (Kd.R_types HO347.out BK313.out (by decide)) (fun _ hk => hk.2) (.slice Ao111 y345.length co111)) (fun _ hk => hk.1.1)⟩, ⟨by (with_reducible repeat (first | refine blk_drewN ?_ _ | refine blk_drew ?_ | refine blk_alloc ?_ _)); refine blk_far ?_ NB305_313.out _; (with_reducible repeat (first | refine blk_drewN ?_ _ | refine blk_drew ?_ | refine blk_alloc ?_ _)); exact BK305.out⟩, ⟨by (with_reducible repeat (first | refine blk_drewN ?_ _ | refine blk_drew ?_ | refine blk_alloc ?_ _)); refine blk_far ?_ NB306_313.out _; (with_reducible repeat (first | refine blk_drewN ?_ _ | refine blk_drew ?_ | refine blk_alloc ?_ _)); exact BK306.out⟩, ⟨by (with_reducible repeat (first | refine blk_drewN ?_ _ | refine blk_drew ?_ | refine blk_alloc ?_ _)); refine blk_put (cs := #[.int .i64 a0_0, .int .i64 a0_1, .slice Ao12 y310.length co12, u314003]) ?_ 3 _ rfl; (with_reducible repeat (first | refine blk_drewN ?_ _ | refine blk_drew ?_ | refine blk_alloc ?_ _)); exact BK313.out⟩, ⟨by repeat (first | (with_reducible first | exact HB.out | apply below_alloc | apply pw_below_drewN | apply below_drew1 | refine below_set ?_ GE305.out | refine below_set ?_ GE306.out | refine below_set ?_ GE313.out | refine below_set ?_ GE315.out | refine below_set ?_ GE322.out) | exact HB.out)⟩⟩
  rw [if_neg c17] at H
  have c17b0 : decide (x4_1 < (l0_3.length : Int)) = false := decide_eq_false c17
  clear c17
  simp only [Option.some.injEq, Prod.mk.injEq] at H
  obtain ⟨rfl, rfl, rfl, rfl⟩ := H
  have hnb113 := NB305_306.out
  have hnc113 := NB306_305.out
  have hnb114 := NB305_313.out
  have hnc114 := NB313_305.out
  have hcz115_0 : wr.cell? ⟨gb305, 0, none⟩ = some (.int .i64 a0_0) := (blk_cell BK305.out 0).trans rfl
  have hcz115_1 : wr.cell? ⟨gb305, 1, none⟩ = some (.int .i64 a0_1) := (blk_cell BK305.out 1).trans rfl
  have hcz115_2 : wr.cell? ⟨gb305, 2, none⟩ = some (.slice A0_2 l0_2.length c0_2) := (blk_cell BK305.out 2).trans rfl
  have hcz115_3 : wr.cell? ⟨gb305, 3, none⟩ = some (.slice A0_3 l0_3.length c0_3) := (blk_cell BK305.out 3).trans rfl
  have hfz115_0 := blk_frozen BK305.out 0
  have hfz115_1 := blk_frozen BK305.out 1
  have hfz115_2 := blk_frozen BK305.out 2
  have hfz115_3 := blk_frozen BK305.out 3
  have hnb116 := NB313_306.out
  have hnc116 := NB306_313.out
  have hcz117_0 : wr.cell? ⟨gb313, 0, none⟩ = some (.int .i64 a0_0) := (blk_cell BK313.out 0).trans rfl
  have hcz117_1 : wr.cell? ⟨gb313, 1, none⟩ = some (.int .i64 a0_1) := (blk_cell BK313.out 1).trans rfl
  have hcz117_2 : wr.cell? ⟨gb313, 2, none⟩ = some (.slice Ao12 y310.length co12) := (blk_cell BK313.out 2).trans rfl
  have hcz117_3 : wr.cell? ⟨gb313, 3, none⟩ = some (u314003) := (blk_cell BK313.out 3).trans rfl
  have hfz117_0 := blk_frozen BK313.out 0
  have hfz117_1 := blk_frozen BK313.out 1
  have hfz117_2 := blk_frozen BK313.out 2
  have hfz117_3 := blk_frozen BK313.out 3
  have hcz118_0 : wr.cell? ⟨gb306, 0, none⟩ = some (.int .i64 0) := (blk_cell BK306.out 0).trans rfl
  have hcz118_1 : wr.cell? ⟨gb306, 1, none⟩ = some (.int .i64 0) := (blk_cell BK306.out 1).trans rfl
  have hcz118_2 : wr.cell? ⟨gb306, 2, none⟩ = some (.slice none 0 0) := (blk_cell BK306.out 2).trans rfl
  have hcz118_3 : wr.cell? ⟨gb306, 3, none⟩ = some (.slice none 0 0) := (blk_cell BK306.out 3).trans rfl
  have hfz118_0 := blk_frozen BK306.out 0
  have hfz118_1 := blk_frozen BK306.out 1
  have hfz118_2 := blk_frozen BK306.out 2
  have hfz118_3 := blk_frozen BK306.out 3
  obtain ⟨Ao119, co119, eo119⟩ := Kd.R_slice HO_314003.out
  subst eo119
  go_wp2
  refine bodyPost_ret (results_cell_row rfl _ _ gb306 25 #[.int .i64 a0_0, .int .i64 a0_1, .slice Ao12 y310.length co12, .slice Ao119 x314003_1.length co119] (0, 0) _ rfl (by (with_reducible repeat (first | refine blk_drewN ?_ _ | refine blk_drew ?_ | refine blk_alloc ?_ _)); refine blk_put (cs := #[.int .i64 a0_0, .int .i64 a0_1, .slice Ao12 y310.length co12, .slice none 0 0]) ?_ 3 _ rfl; (with_reducible repeat (first | refine blk_drewN ?_ _ | refine blk_drew ?_ | refine blk_alloc ?_ _)); refine blk_put (cs := #[.int .i64 a0_0, .int .i64 a0_1, .slice none 0 0, .slice none 0 0]) ?_ 2 _ rfl; (with_reducible repeat (first | refine blk_drewN ?_ _ | refine blk_drew ?_ | refine blk_alloc ?_ _)); refine blk_put (cs := #[.int .i64 a0_0, .int .i64 0, .slice none 0 0, .slice none 0 0]) ?_ 1 _ rfl; (with_reducible repeat (first | refine blk_drewN ?_ _ | refine blk_drew ?_ | refine blk_alloc ?_ _)); refine blk_put (cs := #[.int .i64 0, .int .i64 0, .slice none 0 0, .slice none 0 0]) ?_ 0 _ rfl; (with_reducible repeat (first | refine blk_drewN ?_ _ | refine blk_drew ?_ | refine blk_alloc ?_ _)); exact BK306.out) Try.underlying25 rfl (by kernel_rfl)) rfl ?_
  exact ⟨_, _, by first | rfl | (simp [errW_none, errW_some] <;> rfl) | (simp [*, errW_none, errW_some] <;> rfl), by (with_reducible repeat (first | apply R_alloc | apply R_drewN | apply R_drew)); exact R_mono (Kd.R_far (p := ⟨gb306, 3, none⟩) (Kd.R_far (p := ⟨gb306, 2, none⟩) (Kd.R_far (p := ⟨gb306, 1, none⟩) (Kd.R_far (p := ⟨gb306, 0, none⟩) (Kd.R_types HO_314002.out BK306.out (by decide)) (fun _ hk => hk.2) (.int .i64 a0_0)) (fun _ hk => hk.2) (.int .i64 a0_1)) (fun _ hk => hk.2) (.slice Ao12 y310.length co12)) (fun _ hk => hk.2) (.slice Ao119 x314003_1.length co119)) (fun _ hk => trivial), by (with_reducible repeat (first | apply R_alloc | apply R_drewN | apply R_drew)); exact R_mono (Kd.R_far (p := ⟨gb306, 3, none⟩) (Kd.R_far (p := ⟨gb306, 2, none⟩) (Kd.R_far (p := ⟨gb306, 1, none⟩) (Kd.R_far (p := ⟨gb306, 0, none⟩) (Kd.R_types HO_314003.out BK306.out (by decide)) (fun _ hk => hk.2) (.int .i64 a0_0)) (fun _ hk => hk.2) (.int .i64 a0_1)) (fun _ hk => hk.2) (.slice Ao12 y310.length co12)) (fun _ hk => hk.2) (.slice Ao119 x314003_1.length co119)) (fun _ hk => hk.1), by repeat (first | (with_reducible first | exact HB.out | apply below_alloc | apply pw_below_drewN | apply below_drew1 | refine below_set ?_ GE305.out | refine below_set ?_ GE306.out | refine below_set ?_ GE313.out) | exact HB.out)⟩
end Go.Proofs.Ytpionncanaamgaa.PDomStays
