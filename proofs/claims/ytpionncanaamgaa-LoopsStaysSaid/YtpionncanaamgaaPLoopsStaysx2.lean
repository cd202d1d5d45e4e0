-- Laid by a program of this session (wip/pp/patch.py over the kit's print).
import Derived.Test.YtpionncanaamgaaUp
import Derived.Test.YtpionncanaamgaaPLoopsStaysx0
import Derived.Test.YtpionncanaamgaaShort
namespace Go.Proofs.Ytpionncanaamgaa.PLoopsStays
open Go.Proofs.Ytpionncanaamgaa.Up Go.Proofs.Ytpionncanaamgaa.Short Go.RowKit Go.Proofs.YtpionncanaamgaaW.PrintWords Go.Proofs.YtpionncanaamgaaW.PrintLast Go.Proofs.YtpionncanaamgaaW.PrintMore Go.Proofs.YtpionncanaamgaaW.PrintWords.Kd
attribute [local go_sem] max2_int min2_int max_two min_two max_three min_three max_four min_four   -- for this text's walks alone
set_option linter.unusedVariables false
set_option linter.unusedSimpArgs false
/-! ### fettleref02_CopyFunc: function 23 -/
mutual
def fettleref02_CopyFunc.l0 : Nat → Int → Int → Int → List Int → List (S52) → Int → Int → List Int → List (S52) → Option (Int × Int × List Int × (List (S52)))
  | 0, _, _, _, _, _, _, _, _, _ => none
  | k + 1, x4, x104000, x104001, x104002, x104003, x112000, x112001, x112002, x112003 => if x4 < (x104003.length : Int) then (if 0 ≤ x4 then ((some (([] : List Int) : List Int)).bind fun y114 => (if y114.length + ((rd_T52 x104003 x4).f2.f2).length < 17592186044416 then (fettleref02_CopyFunc.l1 k x4 0 x104000 x104001 x104002 x104003 x112000 x112001 x112002 x112003 ((rd_T52 x104003 x4).f0) ((rd_T52 x104003 x4).f1) ((rd_T52 x104003 x4).f2.f0) ((rd_T52 x104003 x4).f2.f1) ((rd_T52 x104003 x4).f2.f2) ([] : List (S62)) ((rd_T52 x104003 x4).f2.f0) ((rd_T52 x104003 x4).f2.f1) (y114 ++ ((rd_T52 x104003 x4).f2.f2))) else (none))) else (none)) else (some (x112000, x112001, x112002, x112003))
def fettleref02_CopyFunc.l1 : Nat → Int → Int → Int → Int → List Int → List (S52) → Int → Int → List Int → List (S52) → List (S62) → List (S64) → Int → Int → List Int → List (S62) → Int → Int → List Int → Option (Int × Int × List Int × (List (S52)))
  | 0, _, _, _, _, _, _, _, _, _, _, _, _, _, _, _, _, _, _, _ => none
  | k + 1, x4, x7, x104000, x104001, x104002, x104003, x112000, x112001, x112002, x112003, x114000, x114001, x114002, x114003, x114004, x121000, x121002, x121003, x121004 => if x7 < (x114000.length : Int) then (if 0 ≤ x7 then ((some (([] : List Int) : List Int)).bind fun y122 => (if y122.length + ((rd_T62 x114000 x7).f1).length < 17592186044416 then (if x121000.length < 4398046511104 then (fettleref02_CopyFunc.l1 k x4 (wrap64 (x7 + 1)) x104000 x104001 x104002 x104003 x112000 x112001 x112002 x112003 x114000 x114001 x114002 x114003 x114004 (x121000 ++ [(⟨(rd_T62 x114000 x7).f0, (y122 ++ ((rd_T62 x114000 x7).f1))⟩ : S62)]) x121002 x121003 x121004) else (none)) else (none))) else (none)) else (fettleref02_CopyFunc.l2 k x4 0 x104000 x104001 x104002 x104003 x112000 x112001 x112002 x112003 x114000 x114001 x114002 x114003 x114004 x121000 ([] : List (S64)) x121002 x121003 x121004)
def fettleref02_CopyFunc.l2 : Nat → Int → Int → Int → Int → List Int → List (S52) → Int → Int → List Int → List (S52) → List (S62) → List (S64) → Int → Int → List Int → List (S62) → List (S64) → Int → Int → List Int → Option (Int × Int × List Int × (List (S52)))
  | 0, _, _, _, _, _, _, _, _, _, _, _, _, _, _, _, _, _, _, _, _ => none
  | k + 1, x4, x8, x104000, x104001, x104002, x104003, x112000, x112001, x112002, x112003, x114000, x114001, x114002, x114003, x114004, x121000, x121001, x121002, x121003, x121004 => if x8 < (x114001.length : Int) then (if 0 ≤ x8 then ((some (([] : List Int) : List Int)).bind fun y134 => (if y134.length + ((rd_T64 x114001 x8).f2).length < 17592186044416 then (if x121001.length < 2513169434916 then (fettleref02_CopyFunc.l2 k x4 (wrap64 (x8 + 1)) x104000 x104001 x104002 x104003 x112000 x112001 x112002 x112003 x114000 x114001 x114002 x114003 x114004 x121000 (x121001 ++ [(⟨(rd_T64 x114001 x8).f0, (rd_T64 x114001 x8).f1, (y134 ++ ((rd_T64 x114001 x8).f2)), (rd_T64 x114001 x8).f3, (rd_T64 x114001 x8).f4⟩ : S64)]) x121002 x121003 x121004) else (none)) else (none))) else (none)) else (if x112003.length < 1599289640401 then (fettleref02_CopyFunc.l0 k (wrap64 (x4 + 1)) x104000 x104001 x104002 x104003 x112000 x112001 x112002 (x112003 ++ [(⟨x121000, x121001, (⟨x121002, x121003, x121004⟩ : S47)⟩ : S52)])) else (none))
end
def fettleref02_CopyFunc.f (k : Nat) (a0_0 : Int) (a0_1 : Int) (l0_2 : List Int) (l0_3 : List (S52)) : Option (Int × Int × List Int × (List (S52))) := (some (([] : List Int) : List Int)).bind fun y105 => (if y105.length + l0_2.length < 17592186044416 then (fettleref02_CopyFunc.l0 k 0 a0_0 a0_1 l0_2 l0_3 a0_0 a0_1 (y105 ++ l0_2) ([] : List (S52))) else (none))
theorem fettleref02_CopyFunc.mono_l : ∀ k, (∀ y0 y1 y2 y3 y4 y5 y6 y7 y8, LeO (fettleref02_CopyFunc.l0 k y0 y1 y2 y3 y4 y5 y6 y7 y8) (fettleref02_CopyFunc.l0 (k + 1) y0 y1 y2 y3 y4 y5 y6 y7 y8)) ∧ (∀ y0 y1 y2 y3 y4 y5 y6 y7 y8 y9 y10 y11 y12 y13 y14 y15 y16 y17 y18, LeO (fettleref02_CopyFunc.l1 k y0 y1 y2 y3 y4 y5 y6 y7 y8 y9 y10 y11 y12 y13 y14 y15 y16 y17 y18) (fettleref02_CopyFunc.l1 (k + 1) y0 y1 y2 y3 y4 y5 y6 y7 y8 y9 y10 y11 y12 y13 y14 y15 y16 y17 y18)) ∧ (∀ y0 y1 y2 y3 y4 y5 y6 y7 y8 y9 y10 y11 y12 y13 y14 y15 y16 y17 y18 y19, LeO (fettleref02_CopyFunc.l2 k y0 y1 y2 y3 y4 y5 y6 y7 y8 y9 y10 y11 y12 y13 y14 y15 y16 y17 y18 y19) (fettleref02_CopyFunc.l2 (k + 1) y0 y1 y2 y3 y4 y5 y6 y7 y8 y9 y10 y11 y12 y13 y14 y15 y16 y17 y18 y19))
  | 0 => ⟨fun _ _ _ _ _ _ _ _ _ r h => by simp [fettleref02_CopyFunc.l0] at h, fun _ _ _ _ _ _ _ _ _ _ _ _ _ _ _ _ _ _ _ r h => by simp [fettleref02_CopyFunc.l1] at h, fun _ _ _ _ _ _ _ _ _ _ _ _ _ _ _ _ _ _ _ _ r h => by simp [fettleref02_CopyFunc.l2] at h⟩
  | k + 1 => by
    obtain ⟨ih0, ih1, ih2⟩ := fettleref02_CopyFunc.mono_l k
    refine ⟨?_, ?_, ?_⟩
    · intro y0 y1 y2 y3 y4 y5 y6 y7 y8
      unfold fettleref02_CopyFunc.l0
      repeat' first
      | (with_reducible exact ih0 _ _ _ _ _ _ _ _ _)
      | (with_reducible exact ih1 _ _ _ _ _ _ _ _ _ _ _ _ _ _ _ _ _ _ _)
      | (with_reducible exact ih2 _ _ _ _ _ _ _ _ _ _ _ _ _ _ _ _ _ _ _ _)
      | (with_reducible exact LeO.refl _)
      | (with_reducible exact LeO.none _)
      | (with_reducible refine LeO.ite ?_ ?_)
      | (with_reducible refine LeO.bind ?_ (fun _ => ?_))
      | exact ih0 _ _ _ _ _ _ _ _ _
      | exact ih1 _ _ _ _ _ _ _ _ _ _ _ _ _ _ _ _ _ _ _
      | exact ih2 _ _ _ _ _ _ _ _ _ _ _ _ _ _ _ _ _ _ _ _
      | exact LeO.none _
      | refine LeO.ite ?_ ?_
      | refine LeO.bind ?_ (fun _ => ?_)
    · intro y0 y1 y2 y3 y4 y5 y6 y7 y8 y9 y10 y11 y12 y13 y14 y15 y16 y17 y18
      unfold fettleref02_CopyFunc.l1
      repeat' first
      | (with_reducible exact ih0 _ _ _ _ _ _ _ _ _)
      | (with_reducible exact ih1 _ _ _ _ _ _ _ _ _ _ _ _ _ _ _ _ _ _ _)
      | (with_reducible exact ih2 _ _ _ _ _ _ _ _ _ _ _ _ _ _ _ _ _ _ _ _)
      | (with_reducible exact LeO.refl _)
      | (with_reducible exact LeO.none _)
      | (with_reducible refine LeO.ite ?_ ?_)
      | (with_reducible refine LeO.bind ?_ (fun _ => ?_))
      | exact ih0 _ _ _ _ _ _ _ _ _
      | exact ih1 _ _ _ _ _ _ _ _ _ _ _ _ _ _ _ _ _ _ _
      | exact ih2 _ _ _ _ _ _ _ _ _ _ _ _ _ _ _ _ _ _ _ _
      | exact LeO.none _
      | refine LeO.ite ?_ ?_
      | refine LeO.bind ?_ (fun _ => ?_)
    · intro y0 y1 y2 y3 y4 y5 y6 y7 y8 y9 y10 y11 y12 y13 y14 y15 y16 y17 y18 y19
      unfold fettleref02_CopyFunc.l2
      repeat' first
      | (with_reducible exact ih0 _ _ _ _ _ _ _ _ _)
      | (with_reducible exact ih1 _ _ _ _ _ _ _ _ _ _ _ _ _ _ _ _ _ _ _)
      | (with_reducible exact ih2 _ _ _ _ _ _ _ _ _ _ _ _ _ _ _ _ _ _ _ _)
      | (with_reducible exact LeO.refl _)
      | (with_reducible exact LeO.none _)
      | (with_reducible refine LeO.ite ?_ ?_)
      | (with_reducible refine LeO.bind ?_ (fun _ => ?_))
      | exact ih0 _ _ _ _ _ _ _ _ _
      | exact ih1 _ _ _ _ _ _ _ _ _ _ _ _ _ _ _ _ _ _ _
      | exact ih2 _ _ _ _ _ _ _ _ _ _ _ _ _ _ _ _ _ _ _ _
      | exact LeO.none _
      | refine LeO.ite ?_ ?_
      | refine LeO.bind ?_ (fun _ => ?_)
theorem fettleref02_CopyFunc.mono : ∀ a0 a1 a2 a3 k, LeO (fettleref02_CopyFunc.f k a0 a1 a2 a3) (fettleref02_CopyFunc.f (k + 1) a0 a1 a2 a3) := by
  intro a0 a1 a2 a3 k
  obtain ⟨ih0, ih1, ih2⟩ := fettleref02_CopyFunc.mono_l k
  unfold fettleref02_CopyFunc.f
  repeat' first
      | (with_reducible exact ih0 _ _ _ _ _ _ _ _ _)
      | (with_reducible exact ih1 _ _ _ _ _ _ _ _ _ _ _ _ _ _ _ _ _ _ _)
      | (with_reducible exact ih2 _ _ _ _ _ _ _ _ _ _ _ _ _ _ _ _ _ _ _ _)
      | (with_reducible exact LeO.refl _)
      | (with_reducible exact LeO.none _)
      | (with_reducible refine LeO.ite ?_ ?_)
      | (with_reducible refine LeO.bind ?_ (fun _ => ?_))
      | exact ih0 _ _ _ _ _ _ _ _ _
      | exact ih1 _ _ _ _ _ _ _ _ _ _ _ _ _ _ _ _ _ _ _
      | exact ih2 _ _ _ _ _ _ _ _ _ _ _ _ _ _ _ _ _ _ _ _
      | exact LeO.none _
      | refine LeO.ite ?_ ?_
      | refine LeO.bind ?_ (fun _ => ?_)
def fettleref02_CopyFunc.T1 : Bool × List (List Nat × List Nat) := (true, [([], []), ([0], [0]), ([], []), ([2], [2]), ([], []), ([], []), ([5], [5]), ([4, 6], [4, 6]), ([1, 3, 7], [1, 3, 7]), ([], []), ([9, 8, 7, 0, 1, 2, 3, 4, 5, 6, 7, 8, 9], [8, 9])])
def fettleref02_CopyFunc.B1 : List Nat := [0, 1, 0, 4, 0, 0, 32, 112, 255, 0, 1023]
theorem fettleref02_CopyFunc.tab1 : rtab .any (opsOf Try.f23 1) = fettleref02_CopyFunc.T1 := by kernel_rfl
theorem fettleref02_CopyFunc.bits1 : waitsOk fettleref02_CopyFunc.T1.2 fettleref02_CopyFunc.B1 = true := by kernel_rfl
def fettleref02_CopyFunc.T6 : Bool × List (List Nat × List Nat) := (true, [([], []), ([0], [0]), ([1], [1]), ([], []), ([3], [3]), ([4], [4]), ([], []), ([], []), ([7], [7]), ([8], [8]), ([6, 9], [6, 9]), ([2, 5, 10], [2, 5, 10]), ([11], [11]), ([], []), ([13, 12, 10, 0, 1, 2, 3, 4, 5, 6, 7, 8, 9, 10, 11, 12, 13], [12, 13])])
def fettleref02_CopyFunc.B6 : List Nat := [0, 1, 3, 0, 8, 24, 0, 0, 128, 384, 960, 2047, 4095, 0, 16383]
theorem fettleref02_CopyFunc.tab6 : rtab .any (opsOf Try.f23 6) = fettleref02_CopyFunc.T6 := by kernel_rfl
theorem fettleref02_CopyFunc.bits6 : waitsOk fettleref02_CopyFunc.T6.2 fettleref02_CopyFunc.B6 = true := by kernel_rfl
def fettleref02_CopyFunc.T10 : Bool × List (List Nat × List Nat) := (true, [([], []), ([0], [0]), ([], []), ([2], [2]), ([], []), ([3, 4], [3, 4]), ([5], [5]), ([6], [6]), ([], []), ([], []), ([9], [9]), ([], []), ([10, 11], [10, 11]), ([12], [12]), ([13], [13]), ([8, 14], [8, 14]), ([7, 15], [7, 15]), ([16], [16]), ([1, 17, 15], [1, 17]), ([0, 1, 2, 3, 4, 5, 6, 7, 8, 9, 10, 11, 12, 13, 14, 15, 16, 17, 18], []), ([19, 18, 18, 0, 1, 2, 3, 4, 5, 6, 7, 8, 9, 10, 11, 12, 13, 14, 15, 16, 17, 18], [18, 19])])
def fettleref02_CopyFunc.B10 : List Nat := [0, 1, 0, 4, 0, 28, 60, 124, 0, 0, 512, 0, 3584, 7680, 15872, 32512, 65532, 131068, 262143, 524287, 1048575]
theorem fettleref02_CopyFunc.tab10 : rtab .any (opsOf Try.f23 10) = fettleref02_CopyFunc.T10 := by kernel_rfl
theorem fettleref02_CopyFunc.bits10 : waitsOk fettleref02_CopyFunc.T10.2 fettleref02_CopyFunc.B10 = true := by kernel_rfl
set_option maxHeartbeats 8000000 in
set_option maxRecDepth 100000 in
theorem fettleref02_CopyFunc.calls (k : Nat) (a0_0 : Int) (a0_1 : Int) (A0_2 : Option Addr) (c0_2 : Nat) (l0_2 : List Int) (A0_3 : Option Addr) (c0_3 : Nat) (l0_3 : List (S52)) (r1 : Int) (r2 : Int) (r3 : List Int) (r4 : List (S52)) (w : World) (hr0_2 : Kd.C (Kd.int .i64) w A0_2 l0_2.length l0_2) (hc0_2 : l0_2.length ≤ c0_2) (hr0_3 : Kd.C k52 w A0_3 l0_3.length l0_3) (hc0_3 : l0_3.length ≤ c0_3) (h : fettleref02_CopyFunc.f k a0_0 a0_1 l0_2 l0_3 = some (r1, r2, r3, r4)) :
    Calls Try.prog 23 #[.agg #[.int .i64 a0_0, .int .i64 a0_1, .slice A0_2 l0_2.length c0_2, .slice A0_3 l0_3.length c0_3]] w fun e w' => ∃ v2_ v3_ : Value, e = .returned (.agg #[.int .i64 r1, .int .i64 r2, v2_, v3_]) ∧ Kd.R (Kd.int .i64) 3 w' w.heap.size (fun _ => True) v2_ r3 ∧ Kd.R k52 52 w' w.heap.size (fun k_ => some k_ ≠ (v2_ : Value).ownBlock) v3_ r4 ∧ Below w.heap.size w w' := by
  have hu25 := Try.underlying25
  have hu52 := Try.underlying52
  have hu47 := Try.underlying47
  have hu62 := Try.underlying62
  have hu64 := Try.underlying64
  have HR0_2 := Aside0.mk hr0_2
  have HC0_2 := Aside0.mk hc0_2
  clear hr0_2 hc0_2
  have HR0_3 := Aside0.mk hr0_3
  have HC0_3 := Aside0.mk hc0_3
  clear hr0_3 hc0_3
  have HB := Aside0.mk (Below.refl w.heap.size w)
  have H : ((some (([] : List Int) : List Int)).bind fun y105 => (if y105.length + l0_2.length < 17592186044416 then (fettleref02_CopyFunc.l0 k 0 a0_0 a0_1 l0_2 l0_3 a0_0 a0_1 (y105 ++ l0_2) ([] : List (S52))) else (none))) = some (r1, r2, r3, r4) := h
  clear h
  obtain ⟨y105, hy105⟩ : ∃ y_ : List Int, y_ = (([] : List Int)) := ⟨_, rfl⟩
  replace H : (if y105.length + l0_2.length < 17592186044416 then (fettleref02_CopyFunc.l0 k 0 a0_0 a0_1 l0_2 l0_3 a0_0 a0_1 (y105 ++ l0_2) ([] : List (S52))) else (none)) = some (r1, r2, r3, r4) := by first | (rw [hy105]; with_reducible exact H) | (have H2_ := (Option.bind_some _ _).symm.trans H; rw [hy105]; with_reducible exact H2_) | exact H
  have Ny105 := Aside0.mk hy105
  clear hy105
  by_cases c2 : y105.length + l0_2.length < 17592186044416
  rotate_left
  · rw [if_neg c2] at H
    exact absurd H (by simp)
  rw [if_pos c2] at H
  have LMc2 := Aside0.mk c2
  clear c2
  obtain ⟨y108, hy108⟩ : ∃ y_ : List Int, y_ = (y105 ++ l0_2) := ⟨_, rfl⟩
  replace H : (fettleref02_CopyFunc.l0 k 0 a0_0 a0_1 l0_2 l0_3 a0_0 a0_1 y108 ([] : List (S52))) = some (r1, r2, r3, r4) := by first | (rw [hy108]; with_reducible exact H) | (have H2_ := (Option.bind_some _ _).symm.trans H; rw [hy108]; with_reducible exact H2_) | exact H
  have Ny108 := Aside0.mk hy108
  clear hy108
  have H' := Aside0.mk H
  clear H
  go_enter Try.func23, Try.ntmps23
  try go_wp2_with (first | ((with_reducible refine gate_dst (N := 1) rfl ?_); refine box_event ?hg (N := 1) ?hd (cs := #[.int .i64 a0_0, .int .i64 a0_1, .slice A0_2 l0_2.length c0_2, .slice A0_3 l0_3.length c0_3]) (t := 25) ?hr ?_; (case hd => rfl); (case hg => rfl); (case hr => first | (go_simp; done) | (go_simp; rfl)); intro gb103 hg w3 hbox hb; have n0_ := Aside0.mk (below_step (by repeat with_reducible first | exact HB.out | apply below_alloc | apply pw_below_drewN | apply below_drew1) hb); have n1_ := Aside0.mk (hbox); have n2_ := Aside0.mk ((by rw [hg]; exact (below_size (by repeat with_reducible first | exact HB.out | apply below_alloc | apply pw_below_drewN | apply below_drew1)) : w.heap.size ≤ gb103)); have n3_ := Aside0.mk ((by rw [hg]; exact (below_size (by repeat with_reducible first | exact HB.out | apply below_alloc | apply pw_below_drewN | apply below_drew1)) : w.heap.size ≤ gb103)); clear HB; have HB := n0_; have BK103 := n1_; have GW103 := n2_; have GE103 := n3_; clear n0_ n1_ n2_ n3_; clear hb hbox hg) | ((with_reducible refine gate_dst (N := 2) rfl ?_); refine box_event ?hg (N := 2) ?hd (cs := #[.int .i64 0, .int .i64 0, .slice none 0 0, .slice none 0 0]) (t := 25) ?hr ?_; (case hd => rfl); (case hg => rfl); (case hr => first | (go_simp; done) | (go_simp; rfl)); intro gb104 hg w4 hbox hb; have n0_ := Aside0.mk (blk_below (bu BK103.out) hb); have n1_ := Aside0.mk (below_step (by repeat with_reducible first | exact HB.out | apply below_alloc | apply pw_below_drewN | apply below_drew1 | refine below_set ?_ GE103.out) hb); have n2_ := Aside0.mk (hbox); have n3_ := Aside0.mk ((by rw [hg]; exact (below_size (by repeat with_reducible first | exact HB.out | apply below_alloc | apply pw_below_drewN | apply below_drew1 | refine below_set ?_ GE103.out)) : w.heap.size ≤ gb104)); have n4_ := Aside0.mk ((by rw [hg]; exact (below_size (by repeat with_reducible first | exact HB.out | apply below_alloc | apply pw_below_drewN | apply below_drew1 | refine below_set ?_ GE103.out)) : w.heap.size ≤ gb104)); have n5_ := Aside0.mk ((by rw [hg]; exact Nat.ne_of_lt (blk_lt (bu BK103.out)) : gb103 ≠ gb104)); have n6_ := Aside0.mk ((by rw [hg]; exact Nat.ne_of_gt (blk_lt (bu BK103.out)) : gb104 ≠ gb103)); clear BK103; clear HB; have BK103 := n0_; have HB := n1_; have BK104 := n2_; have GW104 := n3_; have GE104 := n4_; have NB103_104 := n5_; have NB104_103 := n6_; clear n0_ n1_ n2_ n3_ n4_ n5_ n6_; clear hb hbox hg))
  have n0_ := Aside0.mk (blk_drew BK103.out)
  have n1_ := Aside0.mk (blk_drew BK104.out)
  have n2_ := Aside0.mk (below_drew1 HB.out)
  clear BK103
  clear BK104
  clear HB
  have BK103 := n0_
  have BK104 := n1_
  have HB := n2_
  clear n0_ n1_ n2_
  refine start_ (n := 11) (S := fun w' => w'.cell? ⟨gb103, 0, none⟩ = some (.int .i64 a0_0) ∧ w'.cell? ⟨gb103, 1, none⟩ = some (.int .i64 a0_1) ∧ w'.cell? ⟨gb103, 2, none⟩ = some (.slice A0_2 l0_2.length c0_2) ∧ w'.cell? ⟨gb103, 3, none⟩ = some (.slice A0_3 l0_3.length c0_3)) (ds := []) #[false, false, false, false, false, false, false, false, false, false, false] (by kernel_rfl) rfl rfl ⟨(blk_cell BK103.out 0).trans rfl, (blk_cell BK103.out 1).trans rfl, (blk_cell BK103.out 2).trans rfl, (blk_cell BK103.out 3).trans rfl⟩ (fun hHeld => ?_); refine with_tabW fettleref02_CopyFunc.tab1 fettleref02_CopyFunc.bits1 (fun HT_ HW_ => ?_)
  generalize w4.drew = w5 at BK103 BK104 HB hHeld ⊢
  refine pu 0 10 (bt 11 1) HT_.out ?_
  refine pu 2 12 (bt 11 5) HT_.out ?_
  refine pu 5 15 (bt 11 37) HT_.out ?_
  refine tk 1 11 (bt 11 39) HT_.out HW_.out hHeld rfl rfl (by rintro w' ⟨s0, s1, s2, s3⟩; go_simp; with_reducible rfl) ?_
  refine tk 3 13 (bt 11 47) HT_.out HW_.out hHeld rfl rfl (by rintro w' ⟨s0, s1, s2, s3⟩; go_simp; with_reducible rfl) ?_
  refine tk 6 16 (bt 11 111) HT_.out HW_.out hHeld rfl rfl (by rintro w' ⟨s0, s1, s2, s3⟩; go_simp; with_reducible rfl) ?_
  refine join_ (σ := Value × Value × Nat) 1 (bt 11 1023) (fun s_ => [(14, s_.1), (17, s_.2.1), (3, .pointer (some ⟨s_.2.2, 0, none⟩)), (18, .agg #[.int .i64 a0_0, .int .i64 a0_1, s_.2.1, .slice none 0 0])]) (fun s_ w' => (w'.cell? ⟨gb103, 0, none⟩ = some (.int .i64 a0_0) ∧ w'.cell? ⟨gb103, 1, none⟩ = some (.int .i64 a0_1) ∧ w'.cell? ⟨gb103, 2, none⟩ = some (.slice A0_2 l0_2.length c0_2) ∧ w'.cell? ⟨gb103, 3, none⟩ = some (.slice A0_3 l0_3.length c0_3)) ∧ (Kd.R (Kd.int .i64) 3 w' w.heap.size (fun _ => True) s_.2.1 y108) ∧ (w'.heap[gb103]? = some (.cells #[.int .i64 a0_0, .int .i64 a0_1, .slice A0_2 l0_2.length c0_2, .slice A0_3 l0_3.length c0_3] 25 (0, 0))) ∧ (w'.heap[gb104]? = some (.cells #[.int .i64 0, .int .i64 0, .slice none 0 0, .slice none 0 0] 25 (0, 0))) ∧ (w'.heap[s_.2.2]? = some (.cells #[.int .i64 0, .int .i64 0, .slice none 0 0, .slice none 0 0] 25 (0, 0))) ∧ (w.heap.size ≤ s_.2.2) ∧ (w.heap.size ≤ s_.2.2) ∧ (gb103 ≠ s_.2.2) ∧ (s_.2.2 ≠ gb103) ∧ (gb104 ≠ s_.2.2) ∧ (s_.2.2 ≠ gb104) ∧ (Below w.heap.size w w')) ?_ ?_
  rotate_left
  · intro hCont
    refine two_ (i := 4) (j := 9) (Ni := some 14) (Nj := some 3) (bt 11 127) (bt 11 623) rfl rfl rfl rfl (two_of HT_.out (by kernel_rfl)) (by decide) (by decide) (fun K hK => ?_) (fun K hK => ?_)
    · skip
      refine Kd.R_lit_step (Kd.int .i64) _ 3 ?hg (N := 14) ?hd (xs := ([] : List Int)) (inner := []) (ok := fun _ => True) (okp := fun _ => True) ?hr ?hp (fun _ hk => hk) trivial (Below.refl _ _) (Nat.le_refl _) (by simp) ?_; (case hd => rfl); (case hg => rfl); (case hr => first | (go_simp; done) | (go_simp; rfl)); (case hp => exact (Reps.none _ _))
      intro v106 w6 ho7 hb hg_ hnew_
      clear hg_ hnew_
      rw [← Ny105.out] at ho7
      have n0_ := Aside0.mk (Kd.R_lower ho7 (below_size (by repeat with_reducible first | exact HB.out | apply below_alloc | apply pw_below_drewN | apply below_drew1 | refine below_set ?_ GE103.out | refine below_set ?_ GE104.out)))
      have n1_ := Aside0.mk (blk_below (bu BK103.out) hb)
      have n2_ := Aside0.mk (blk_below (bu BK104.out) hb)
      have n3_ := Aside0.mk (below_step (by repeat with_reducible first | exact HB.out | apply below_alloc | apply pw_below_drewN | apply below_drew1 | refine below_set ?_ GE103.out | refine below_set ?_ GE104.out) hb)
      clear BK103
      clear BK104
      clear HB
      have HO107 := n0_
      have BK103 := n1_
      have BK104 := n2_
      have HB := n3_
      clear n0_ n1_ n2_ n3_
      clear hb ho7
      refine hK.out _ _ ⟨(blk_cell BK103.out 0).trans rfl, (blk_cell BK103.out 1).trans rfl, (blk_cell BK103.out 2).trans rfl, (blk_cell BK103.out 3).trans rfl⟩ (fun hHeld => ?_)
      clear hK K
      refine norm_ (a' := ?_) ?_ ?_
      rotate_left
      · show Act.put _ (some 14) _ = _
        simp only [Act.put, List.setIfInBounds_toArray, List.set_cons_zero, List.set_cons_succ, i64_w, i32_w]
        rfl
      refine two_ (i := 7) (j := 9) (Ni := some 17) (Nj := some 3) (bt 11 255) (bt 11 639) rfl rfl rfl rfl (two_of HT_.out (by kernel_rfl)) (by decide) (by decide) (fun K hK => ?_) (fun K hK => ?_)
      · skip
        refine Kd.R_append_rows_step (Kd.int .i64) (w0 := w) w.heap.size (by rfl) (.tmp 14) (.tmp 16) 22 3 (.int .i64 0) 8 rfl Try.underlying22 info3 rfl (by decide) (by omega) v106 y105 l0_2 _ _ _ (fun _ => True) (fun _ => False) rfl rfl ?aO ?aR (fun _ _ h => h) (fun _ h => h.elim) ?aF ?aB ?aS ?aL ?_
        (case aR => exact cu (C_below HR0_2.out HB.out))
        (case aB => exact (by repeat with_reducible first | exact HB.out | apply below_alloc | apply pw_below_drewN | apply below_drew1 | refine below_set ?_ GE103.out | refine below_set ?_ GE104.out))
        (case aF => exact (fun _ _ => trivial))
        (case aO => exact (ru HO107.out))
        (case aS => exact (below_size (by repeat with_reducible first | exact HB.out | apply below_alloc | apply pw_below_drewN | apply below_drew1 | refine below_set ?_ GE103.out | refine below_set ?_ GE104.out)))
        (case aL => have := LMc2.out; omega)
        intro v109 w8 ho hb hg hat
        rw [← Ny108.out] at ho
        have n0_ := Aside0.mk (blk_grown (bu BK103.out) hg (Kd.R_ne HO107.out BK103.out (by decide)))
        have n1_ := Aside0.mk (blk_grown (bu BK104.out) hg (Kd.R_ne HO107.out BK104.out (by decide)))
        have n2_ := Aside0.mk (hb)
        have n3_ := Aside0.mk (ho)
        clear BK103
        clear BK104
        clear HB
        clear HO107
        have BK103 := n0_
        have BK104 := n1_
        have HB := n2_
        have HO110 := n3_
        clear n0_ n1_ n2_ n3_
        clear ho hb hg hat
        obtain ⟨Ao9, co9, eo9⟩ := Kd.R_slice HO110.out
        (first | subst eo9 | (injection eo9 with f1_ f2_ f3_; have f4_ := f1_.symm; have f5_ := f3_.symm; clear f1_ f2_ f3_; subst f4_; subst f5_))
        refine hK.out _ _ ⟨(blk_cell BK103.out 0).trans rfl, (blk_cell BK103.out 1).trans rfl, (blk_cell BK103.out 2).trans rfl, (blk_cell BK103.out 3).trans rfl⟩ (fun hHeld => ?_)
        clear hK K
        refine norm_ (a' := ?_) ?_ ?_
        rotate_left
        · show Act.put _ (some 17) _ = _
          simp only [Act.put, List.setIfInBounds_toArray, List.set_cons_zero, List.set_cons_succ, i64_w, i32_w]
          rfl
        refine pu 8 18 (bt 11 511) HT_.out ?_
        refine one_ (i := 9) (N := some 3) (bt 11 1023) rfl rfl (one_of HT_.out (by kernel_rfl)) (by decide) (fun K hK => ?_)
        refine box_step ?hg (N := 3) ?hd (cs := #[.int .i64 0, .int .i64 0, .slice none 0 0, .slice none 0 0]) (t := 25) ?hr ?_; (case hd => rfl); (case hg => rfl); (case hr => first | (go_simp; done) | (go_simp; rfl))
        intro gb111 hg w10 hbox hb
        have n0_ := Aside0.mk (Kd.R_below (ru HO110.out) hb)
        have n1_ := Aside0.mk (blk_below (bu BK103.out) hb)
        have n2_ := Aside0.mk (blk_below (bu BK104.out) hb)
        have n3_ := Aside0.mk (below_step (by repeat with_reducible first | exact HB.out | apply below_alloc | apply pw_below_drewN | apply below_drew1 | refine below_set ?_ GE103.out | refine below_set ?_ GE104.out) hb)
        have n4_ := Aside0.mk (hbox)
        have n5_ := Aside0.mk ((by rw [hg]; exact (below_size (by repeat with_reducible first | exact HB.out | apply below_alloc | apply pw_below_drewN | apply below_drew1 | refine below_set ?_ GE103.out | refine below_set ?_ GE104.out)) : w.heap.size ≤ gb111))
        have n6_ := Aside0.mk ((by rw [hg]; exact (below_size (by repeat with_reducible first | exact HB.out | apply below_alloc | apply pw_below_drewN | apply below_drew1 | refine below_set ?_ GE103.out | refine below_set ?_ GE104.out)) : w.heap.size ≤ gb111))
        have n7_ := Aside0.mk ((by rw [hg]; exact Nat.ne_of_lt (blk_lt (bu BK103.out)) : gb103 ≠ gb111))
        have n8_ := Aside0.mk ((by rw [hg]; exact Nat.ne_of_gt (blk_lt (bu BK103.out)) : gb111 ≠ gb103))
        have n9_ := Aside0.mk ((by rw [hg]; exact Nat.ne_of_lt (blk_lt (bu BK104.out)) : gb104 ≠ gb111))
        have n10_ := Aside0.mk ((by rw [hg]; exact Nat.ne_of_gt (blk_lt (bu BK104.out)) : gb111 ≠ gb104))
        clear HO110
        clear BK103
        clear BK104
        clear HB
        have HO110 := n0_
        have BK103 := n1_
        have BK104 := n2_
        have HB := n3_
        have BK111 := n4_
        have GW111 := n5_
        have GE111 := n6_
        have NB103_111 := n7_
        have NB111_103 := n8_
        have NB104_111 := n9_
        have NB111_104 := n10_
        clear n0_ n1_ n2_ n3_ n4_ n5_ n6_ n7_ n8_ n9_ n10_
        clear hb hbox hg
        refine hK.out _ _ ⟨(blk_cell BK103.out 0).trans rfl, (blk_cell BK103.out 1).trans rfl, (blk_cell BK103.out 2).trans rfl, (blk_cell BK103.out 3).trans rfl⟩ (fun hHeld => ?_)
        clear hK K
        refine norm_ (a' := ?_) ?_ ?_
        rotate_left
        · show Act.put _ (some 3) _ = _
          simp only [Act.put, List.setIfInBounds_toArray, List.set_cons_zero, List.set_cons_succ, i64_w, i32_w]
          rfl
        exact norm_ (by simp only [putAll, Act.put, List.setIfInBounds_toArray, List.set_cons_zero, List.set_cons_succ]) (hCont (v106, .slice Ao9 y108.length co9, gb111) _ ⟨hHeld, (ru HO110.out), (bu BK103.out), (bu BK104.out), (bu BK111.out), GW111.out, GE111.out, NB103_111.out, NB111_103.out, NB104_111.out, NB111_104.out, (by repeat with_reducible first | exact HB.out | apply below_alloc | apply pw_below_drewN | apply below_drew1 | refine below_set ?_ GE103.out | refine below_set ?_ GE104.out | refine below_set ?_ GE111.out)⟩)
      skip
      refine box_step ?hg (N := 3) ?hd (cs := #[.int .i64 0, .int .i64 0, .slice none 0 0, .slice none 0 0]) (t := 25) ?hr ?_; (case hd => rfl); (case hg => rfl); (case hr => first | (go_simp; done) | (go_simp; rfl))
      intro gb111 hg w8 hbox hb
      have n0_ := Aside0.mk (Kd.R_below (ru HO107.out) hb)
      have n1_ := Aside0.mk (blk_below (bu BK103.out) hb)
      have n2_ := Aside0.mk (blk_below (bu BK104.out) hb)
      have n3_ := Aside0.mk (below_step (by repeat with_reducible first | exact HB.out | apply below_alloc | apply pw_below_drewN | apply below_drew1 | refine below_set ?_ GE103.out | refine below_set ?_ GE104.out) hb)
      have n4_ := Aside0.mk (hbox)
      have n5_ := Aside0.mk ((by rw [hg]; exact (below_size (by repeat with_reducible first | exact HB.out | apply below_alloc | apply pw_below_drewN | apply below_drew1 | refine below_set ?_ GE103.out | refine below_set ?_ GE104.out)) : w.heap.size ≤ gb111))
      have n6_ := Aside0.mk ((by rw [hg]; exact (below_size (by repeat with_reducible first | exact HB.out | apply below_alloc | apply pw_below_drewN | apply below_drew1 | refine below_set ?_ GE103.out | refine below_set ?_ GE104.out)) : w.heap.size ≤ gb111))
      have n7_ := Aside0.mk ((by rw [hg]; exact Nat.ne_of_lt (blk_lt (bu BK103.out)) : gb103 ≠ gb111))
      have n8_ := Aside0.mk ((by rw [hg]; exact Nat.ne_of_gt (blk_lt (bu BK103.out)) : gb111 ≠ gb103))
      have n9_ := Aside0.mk ((by rw [hg]; exact Nat.ne_of_lt (blk_lt (bu BK104.out)) : gb104 ≠ gb111))
      have n10_ := Aside0.mk ((by rw [hg]; exact Nat.ne_of_gt (blk_lt (bu BK104.out)) : gb111 ≠ gb104))
      clear HO107
      clear BK103
      clear BK104
      clear HB
      have HO107 := n0_
      have BK103 := n1_
      have BK104 := n2_
      have HB := n3_
      have BK111 := n4_
      have GW111 := n5_
      have GE111 := n6_
      have NB103_111 := n7_
      have NB111_103 := n8_
      have NB104_111 := n9_
      have NB111_104 := n10_
      clear n0_ n1_ n2_ n3_ n4_ n5_ n6_ n7_ n8_ n9_ n10_
      clear hb hbox hg
      refine hK.out _ _ ⟨(blk_cell BK103.out 0).trans rfl, (blk_cell BK103.out 1).trans rfl, (blk_cell BK103.out 2).trans rfl, (blk_cell BK103.out 3).trans rfl⟩ (fun hHeld => ?_)
      clear hK K
      refine norm_ (a' := ?_) ?_ ?_
      rotate_left
      · show Act.put _ (some 3) _ = _
        simp only [Act.put, List.setIfInBounds_toArray, List.set_cons_zero, List.set_cons_succ, i64_w, i32_w]
        rfl
      refine one_ (i := 7) (N := some 17) (bt 11 767) rfl rfl (one_of HT_.out (by kernel_rfl)) (by decide) (fun K hK => ?_)
      refine Kd.R_append_rows_step (Kd.int .i64) (w0 := w) w.heap.size (by rfl) (.tmp 14) (.tmp 16) 22 3 (.int .i64 0) 8 rfl Try.underlying22 info3 rfl (by decide) (by omega) v106 y105 l0_2 _ _ _ (fun _ => True) (fun _ => False) rfl rfl ?aO ?aR (fun _ _ h => h) (fun _ h => h.elim) ?aF ?aB ?aS ?aL ?_
      (case aR => exact cu (C_below HR0_2.out HB.out))
      (case aB => exact (by repeat with_reducible first | exact HB.out | apply below_alloc | apply pw_below_drewN | apply below_drew1 | refine below_set ?_ GE103.out | refine below_set ?_ GE104.out | refine below_set ?_ GE111.out))
      (case aF => exact (fun _ _ => trivial))
      (case aO => exact (ru HO107.out))
      (case aS => exact (below_size (by repeat with_reducible first | exact HB.out | apply below_alloc | apply pw_below_drewN | apply below_drew1 | refine below_set ?_ GE103.out | refine below_set ?_ GE104.out | refine below_set ?_ GE111.out)))
      (case aL => have := LMc2.out; omega)
      intro v109 w9 ho hb hg hat
      rw [← Ny108.out] at ho
      have n0_ := Aside0.mk (blk_grown (bu BK103.out) hg (Kd.R_ne HO107.out BK103.out (by decide)))
      have n1_ := Aside0.mk (blk_grown (bu BK104.out) hg (Kd.R_ne HO107.out BK104.out (by decide)))
      have n2_ := Aside0.mk (blk_grown (bu BK111.out) hg (Kd.R_ne HO107.out BK111.out (by decide)))
      have n3_ := Aside0.mk (hb)
      have n4_ := Aside0.mk (ho)
      clear BK103
      clear BK104
      clear BK111
      clear HB
      clear HO107
      have BK103 := n0_
      have BK104 := n1_
      have BK111 := n2_
      have HB := n3_
      have HO110 := n4_
      clear n0_ n1_ n2_ n3_ n4_
      clear ho hb hg hat
      obtain ⟨Ao10, co10, eo10⟩ := Kd.R_slice HO110.out
      (first | subst eo10 | (injection eo10 with f1_ f2_ f3_; have f4_ := f1_.symm; have f5_ := f3_.symm; clear f1_ f2_ f3_; subst f4_; subst f5_))
      refine hK.out _ _ ⟨(blk_cell BK103.out 0).trans rfl, (blk_cell BK103.out 1).trans rfl, (blk_cell BK103.out 2).trans rfl, (blk_cell BK103.out 3).trans rfl⟩ (fun hHeld => ?_)
      clear hK K
      refine norm_ (a' := ?_) ?_ ?_
      rotate_left
      · show Act.put _ (some 17) _ = _
        simp only [Act.put, List.setIfInBounds_toArray, List.set_cons_zero, List.set_cons_succ, i64_w, i32_w]
        rfl
      refine pu 8 18 (bt 11 1023) HT_.out ?_
      exact norm_ (by simp only [putAll, Act.put, List.setIfInBounds_toArray, List.set_cons_zero, List.set_cons_succ]) (hCont (v106, .slice Ao10 y108.length co10, gb111) _ ⟨hHeld, (ru HO110.out), (bu BK103.out), (bu BK104.out), (bu BK111.out), GW111.out, GE111.out, NB103_111.out, NB111_103.out, NB104_111.out, NB111_104.out, (by repeat with_reducible first | exact HB.out | apply below_alloc | apply pw_below_drewN | apply below_drew1 | refine below_set ?_ GE103.out | refine below_set ?_ GE104.out | refine below_set ?_ GE111.out)⟩)
    skip
    refine box_step ?hg (N := 3) ?hd (cs := #[.int .i64 0, .int .i64 0, .slice none 0 0, .slice none 0 0]) (t := 25) ?hr ?_; (case hd => rfl); (case hg => rfl); (case hr => first | (go_simp; done) | (go_simp; rfl))
    intro gb111 hg w6 hbox hb
    have n0_ := Aside0.mk (blk_below (bu BK103.out) hb)
    have n1_ := Aside0.mk (blk_below (bu BK104.out) hb)
    have n2_ := Aside0.mk (below_step (by repeat with_reducible first | exact HB.out | apply below_alloc | apply pw_below_drewN | apply below_drew1 | refine below_set ?_ GE103.out | refine below_set ?_ GE104.out) hb)
    have n3_ := Aside0.mk (hbox)
    have n4_ := Aside0.mk ((by rw [hg]; exact (below_size (by repeat with_reducible first | exact HB.out | apply below_alloc | apply pw_below_drewN | apply below_drew1 | refine below_set ?_ GE103.out | refine below_set ?_ GE104.out)) : w.heap.size ≤ gb111))
    have n5_ := Aside0.mk ((by rw [hg]; exact (below_size (by repeat with_reducible first | exact HB.out | apply below_alloc | apply pw_below_drewN | apply below_drew1 | refine below_set ?_ GE103.out | refine below_set ?_ GE104.out)) : w.heap.size ≤ gb111))
    have n6_ := Aside0.mk ((by rw [hg]; exact Nat.ne_of_lt (blk_lt (bu BK103.out)) : gb103 ≠ gb111))
    have n7_ := Aside0.mk ((by rw [hg]; exact Nat.ne_of_gt (blk_lt (bu BK103.out)) : gb111 ≠ gb103))
    have n8_ := Aside0.mk ((by rw [hg]; exact Nat.ne_of_lt (blk_lt (bu BK104.out)) : gb104 ≠ gb111))
    have n9_ := Aside0.mk ((by rw [hg]; exact Nat.ne_of_gt (blk_lt (bu BK104.out)) : gb111 ≠ gb104))
    clear BK103
    clear BK104
    clear HB
    have BK103 := n0_
    have BK104 := n1_
    have HB := n2_
    have BK111 := n3_
    have GW111 := n4_
    have GE111 := n5_
    have NB103_111 := n6_
    have NB111_103 := n7_
    have NB104_111 := n8_
    have NB111_104 := n9_
    clear n0_ n1_ n2_ n3_ n4_ n5_ n6_ n7_ n8_ n9_
    clear hb hbox hg
    refine hK.out _ _ ⟨(blk_cell BK103.out 0).trans rfl, (blk_cell BK103.out 1).trans rfl, (blk_cell BK103.out 2).trans rfl, (blk_cell BK103.out 3).trans rfl⟩ (fun hHeld => ?_)
    clear hK K
    refine norm_ (a' := ?_) ?_ ?_
    rotate_left
    · show Act.put _ (some 3) _ = _
      simp only [Act.put, List.setIfInBounds_toArray, List.set_cons_zero, List.set_cons_succ, i64_w, i32_w]
      rfl
    refine one_ (i := 4) (N := some 14) (bt 11 639) rfl rfl (one_of HT_.out (by kernel_rfl)) (by decide) (fun K hK => ?_)
    refine Kd.R_lit_step (Kd.int .i64) _ 3 ?hg (N := 14) ?hd (xs := ([] : List Int)) (inner := []) (ok := fun _ => True) (okp := fun _ => True) ?hr ?hp (fun _ hk => hk) trivial (Below.refl _ _) (Nat.le_refl _) (by simp) ?_; (case hd => rfl); (case hg => rfl); (case hr => first | (go_simp; done) | (go_simp; rfl)); (case hp => exact (Reps.none _ _))
    intro v106 w7 ho8 hb hg_ hnew_
    clear hg_ hnew_
    rw [← Ny105.out] at ho8
    have n0_ := Aside0.mk (Kd.R_lower ho8 (below_size (by repeat with_reducible first | exact HB.out | apply below_alloc | apply pw_below_drewN | apply below_drew1 | refine below_set ?_ GE103.out | refine below_set ?_ GE104.out | refine below_set ?_ GE111.out)))
    have n1_ := Aside0.mk (blk_below (bu BK103.out) hb)
    have n2_ := Aside0.mk (blk_below (bu BK104.out) hb)
    have n3_ := Aside0.mk (blk_below (bu BK111.out) hb)
    have n4_ := Aside0.mk (below_step (by repeat with_reducible first | exact HB.out | apply below_alloc | apply pw_below_drewN | apply below_drew1 | refine below_set ?_ GE103.out | refine below_set ?_ GE104.out | refine below_set ?_ GE111.out) hb)
    clear BK103
    clear BK104
    clear BK111
    clear HB
    have HO107 := n0_
    have BK103 := n1_
    have BK104 := n2_
    have BK111 := n3_
    have HB := n4_
    clear n0_ n1_ n2_ n3_ n4_
    clear hb ho8
    refine hK.out _ _ ⟨(blk_cell BK103.out 0).trans rfl, (blk_cell BK103.out 1).trans rfl, (blk_cell BK103.out 2).trans rfl, (blk_cell BK103.out 3).trans rfl⟩ (fun hHeld => ?_)
    clear hK K
    refine norm_ (a' := ?_) ?_ ?_
    rotate_left
    · show Act.put _ (some 14) _ = _
      simp only [Act.put, List.setIfInBounds_toArray, List.set_cons_zero, List.set_cons_succ, i64_w, i32_w]
      rfl
    refine one_ (i := 7) (N := some 17) (bt 11 767) rfl rfl (one_of HT_.out (by kernel_rfl)) (by decide) (fun K hK => ?_)
    refine Kd.R_append_rows_step (Kd.int .i64) (w0 := w) w.heap.size (by rfl) (.tmp 14) (.tmp 16) 22 3 (.int .i64 0) 8 rfl Try.underlying22 info3 rfl (by decide) (by omega) v106 y105 l0_2 _ _ _ (fun _ => True) (fun _ => False) rfl rfl ?aO ?aR (fun _ _ h => h) (fun _ h => h.elim) ?aF ?aB ?aS ?aL ?_
    (case aR => exact cu (C_below HR0_2.out HB.out))
    (case aB => exact (by repeat with_reducible first | exact HB.out | apply below_alloc | apply pw_below_drewN | apply below_drew1 | refine below_set ?_ GE103.out | refine below_set ?_ GE104.out | refine below_set ?_ GE111.out))
    (case aF => exact (fun _ _ => trivial))
    (case aO => exact (ru HO107.out))
    (case aS => exact (below_size (by repeat with_reducible first | exact HB.out | apply below_alloc | apply pw_below_drewN | apply below_drew1 | refine below_set ?_ GE103.out | refine below_set ?_ GE104.out | refine below_set ?_ GE111.out)))
    (case aL => have := LMc2.out; omega)
    intro v109 w9 ho hb hg hat
    rw [← Ny108.out] at ho
    have n0_ := Aside0.mk (blk_grown (bu BK103.out) hg (Kd.R_ne HO107.out BK103.out (by decide)))
    have n1_ := Aside0.mk (blk_grown (bu BK104.out) hg (Kd.R_ne HO107.out BK104.out (by decide)))
    have n2_ := Aside0.mk (blk_grown (bu BK111.out) hg (Kd.R_ne HO107.out BK111.out (by decide)))
    have n3_ := Aside0.mk (hb)
    have n4_ := Aside0.mk (ho)
    clear BK103
    clear BK104
    clear BK111
    clear HB
    clear HO107
    have BK103 := n0_
    have BK104 := n1_
    have BK111 := n2_
    have HB := n3_
    have HO110 := n4_
    clear n0_ n1_ n2_ n3_ n4_
    clear ho hb hg hat
    obtain ⟨Ao10, co10, eo10⟩ := Kd.R_slice HO110.out
    (first | subst eo10 | (injection eo10 with f1_ f2_ f3_; have f4_ := f1_.symm; have f5_ := f3_.symm; clear f1_ f2_ f3_; subst f4_; subst f5_))
    refine hK.out _ _ ⟨(blk_cell BK103.out 0).trans rfl, (blk_cell BK103.out 1).trans rfl, (blk_cell BK103.out 2).trans rfl, (blk_cell BK103.out 3).trans rfl⟩ (fun hHeld => ?_)
    clear hK K
    refine norm_ (a' := ?_) ?_ ?_
    rotate_left
    · show Act.put _ (some 17) _ = _
      simp only [Act.put, List.setIfInBounds_toArray, List.set_cons_zero, List.set_cons_succ, i64_w, i32_w]
      rfl
    refine pu 8 18 (bt 11 1023) HT_.out ?_
    exact norm_ (by simp only [putAll, Act.put, List.setIfInBounds_toArray, List.set_cons_zero, List.set_cons_succ]) (hCont (v106, .slice Ao10 y108.length co10, gb111) _ ⟨hHeld, (ru HO110.out), (bu BK103.out), (bu BK104.out), (bu BK111.out), GW111.out, GE111.out, NB103_111.out, NB111_103.out, NB104_111.out, NB111_104.out, (by repeat with_reducible first | exact HB.out | apply below_alloc | apply pw_below_drewN | apply below_drew1 | refine below_set ?_ GE103.out | refine below_set ?_ GE104.out | refine below_set ?_ GE111.out)⟩)
  rintro ⟨v106, v109, gb111⟩ w11 ⟨hS_, h0_, h1_, h2_, h3_, h4_, h5_, h6_, h7_, h8_, h9_, h10_⟩
  have n0_ : Aside0 (Kd.R (Kd.int .i64) 3 w11 w.heap.size (fun _ => True) v109 y108) := ⟨h0_⟩
  have n1_ : Aside0 (w11.heap[gb103]? = some (.cells #[.int .i64 a0_0, .int .i64 a0_1, .slice A0_2 l0_2.length c0_2, .slice A0_3 l0_3.length c0_3] 25 (0, 0))) := ⟨h1_⟩
  have n2_ : Aside0 (w11.heap[gb104]? = some (.cells #[.int .i64 0, .int .i64 0, .slice none 0 0, .slice none 0 0] 25 (0, 0))) := ⟨h2_⟩
  have n3_ : Aside0 (w11.heap[gb111]? = some (.cells #[.int .i64 0, .int .i64 0, .slice none 0 0, .slice none 0 0] 25 (0, 0))) := ⟨h3_⟩
  have n4_ : Aside0 (w.heap.size ≤ gb111) := ⟨h4_⟩
  have n5_ : Aside0 (w.heap.size ≤ gb111) := ⟨h5_⟩
  have n6_ : Aside0 (gb103 ≠ gb111) := ⟨h6_⟩
  have n7_ : Aside0 (gb111 ≠ gb103) := ⟨h7_⟩
  have n8_ : Aside0 (gb104 ≠ gb111) := ⟨h8_⟩
  have n9_ : Aside0 (gb111 ≠ gb104) := ⟨h9_⟩
  have n10_ : Aside0 (Below w.heap.size w w11) := ⟨h10_⟩
  clear BK103
  clear BK104
  clear HB
  clear h0_ h1_ h2_ h3_ h4_ h5_ h6_ h7_ h8_ h9_ h10_
  have HO110 := n0_
  have BK103 := n1_
  have BK104 := n2_
  have BK111 := n3_
  have GW111 := n4_
  have GE111 := n5_
  have NB103_111 := n6_
  have NB111_103 := n7_
  have NB104_111 := n8_
  have NB111_104 := n9_
  have HB := n10_
  clear n0_ n1_ n2_ n3_ n4_ n5_ n6_ n7_ n8_ n9_ n10_
  have hHeld : w11.cell? ⟨gb103, 0, none⟩ = some (.int .i64 a0_0) ∧ w11.cell? ⟨gb103, 1, none⟩ = some (.int .i64 a0_1) ∧ w11.cell? ⟨gb103, 2, none⟩ = some (.slice A0_2 l0_2.length c0_2) ∧ w11.cell? ⟨gb103, 3, none⟩ = some (.slice A0_3 l0_3.length c0_3) := hS_
  obtain ⟨Ao12, co12, eo12⟩ := Kd.R_slice HO110.out
  (first | subst eo12 | (injection eo12 with f1_ f2_ f3_; have f4_ := f1_.symm; have f5_ := f3_.symm; clear f1_ f2_ f3_; subst f4_; subst f5_))
  refine norm_ (a' := ?_) ?_ ?_
  rotate_left
  · simp only [putAll, Act.put, List.setIfInBounds_toArray, List.set_cons_zero, List.set_cons_succ]
    rfl
  refine one_ (i := 10) (N := none) (bt 11 2047) rfl rfl (one_of HT_.out (by kernel_rfl)) (by decide) (fun K hK => ?_)
  have hs13 : w11.cell? ⟨gb111, 0, none⟩ = some (.int .i64 0) := (blk_cell BK111.out 0).trans rfl
  have hfs13 := blk_frozen BK111.out 0
  have hns13_0 := NB103_111.out
  have hns13_1 := NB104_111.out
  have hms13_0 := NB111_103.out
  have hms13_1 := NB111_104.out
  have hs14 : w11.cell? ⟨gb111, 1, none⟩ = some (.int .i64 0) := (blk_cell BK111.out 1).trans rfl
  have hfs14 := blk_frozen BK111.out 1
  have hns14_0 := NB103_111.out
  have hns14_1 := NB104_111.out
  have hms14_0 := NB111_103.out
  have hms14_1 := NB111_104.out
  have hs15 : w11.cell? ⟨gb111, 2, none⟩ = some (.slice none 0 0) := (blk_cell BK111.out 2).trans rfl
  have hfs15 := blk_frozen BK111.out 2
  have hns15_0 := NB103_111.out
  have hns15_1 := NB104_111.out
  have hms15_0 := NB111_103.out
  have hms15_1 := NB111_104.out
  have hs16 : w11.cell? ⟨gb111, 3, none⟩ = some (.slice none 0 0) := (blk_cell BK111.out 3).trans rfl
  have hfs16 := blk_frozen BK111.out 3
  have hns16_0 := NB103_111.out
  have hns16_1 := NB104_111.out
  have hms16_0 := NB111_103.out
  have hms16_1 := NB111_104.out
  refine skip_ (w1 := ?_) (by rfl) rfl ?_ ?_
  rotate_left
  · go_simp
    rfl
  refine hK.out _ _ ⟨((cell_far (p := ⟨gb111, _, none⟩) NB103_111.out _).trans (((cell_far (p := ⟨gb111, _, none⟩) NB103_111.out _).trans (((cell_far (p := ⟨gb111, _, none⟩) NB103_111.out _).trans (((cell_far (p := ⟨gb111, _, none⟩) NB103_111.out _).trans (hHeld.1)))))))), ((cell_far (p := ⟨gb111, _, none⟩) NB103_111.out _).trans (((cell_far (p := ⟨gb111, _, none⟩) NB103_111.out _).trans (((cell_far (p := ⟨gb111, _, none⟩) NB103_111.out _).trans (((cell_far (p := ⟨gb111, _, none⟩) NB103_111.out _).trans (hHeld.2.1)))))))), ((cell_far (p := ⟨gb111, _, none⟩) NB103_111.out _).trans (((cell_far (p := ⟨gb111, _, none⟩) NB103_111.out _).trans (((cell_far (p := ⟨gb111, _, none⟩) NB103_111.out _).trans (((cell_far (p := ⟨gb111, _, none⟩) NB103_111.out _).trans (hHeld.2.2.1)))))))), ((cell_far (p := ⟨gb111, _, none⟩) NB103_111.out _).trans (((cell_far (p := ⟨gb111, _, none⟩) NB103_111.out _).trans (((cell_far (p := ⟨gb111, _, none⟩) NB103_111.out _).trans (((cell_far (p := ⟨gb111, _, none⟩) NB103_111.out _).trans (hHeld.2.2.2))))))))⟩ (fun hHeld => ?_)
  clear hK K
  refine done_ (done_of HT_.out (by kernel_rfl)) ?_
  try go_wp2
  go_loopg [4] k (fun kq v4 w' => ∃ (x4_1 : Int) (x112003_1 : List (S52)) (u112003 : Value), v4 = .int .i64 x4_1 ∧ Aside0 (fettleref02_CopyFunc.l0 kq x4_1 a0_0 a0_1 l0_2 l0_3 a0_0 a0_1 y108 x112003_1 = some (r1, r2, r3, r4)) ∧ Aside0 (kq ≤ k) ∧ Aside0 (Kd.R (Kd.int .i64) 3 w' w.heap.size (fun _ => True) (.slice Ao12 y108.length co12) y108) ∧ Aside0 (Kd.R k52 52 w' w.heap.size (fun k_ => some k_ ≠ ((.slice Ao12 y108.length co12) : Value).ownBlock) u112003 x112003_1) ∧ Aside0 (w'.heap[gb103]? = some (.cells #[.int .i64 a0_0, .int .i64 a0_1, (.slice A0_2 l0_2.length c0_2), (.slice A0_3 l0_3.length c0_3)] 25 (0, 0))) ∧ Aside0 (w'.heap[gb104]? = some (.cells #[.int .i64 0, .int .i64 0, (.slice none 0 0), (.slice none 0 0)] 25 (0, 0))) ∧ Aside0 (w'.heap[gb111]? = some (.cells #[.int .i64 a0_0, .int .i64 a0_1, (.slice Ao12 y108.length co12), u112003] 25 (0, 0))) ∧ Aside0 (Below w.heap.size w w'))
  case atStart => exact ⟨(0), (([] : List (S52))), (.slice none 0 0), (by first | rfl | (simp; done) | (simp [*]; done)), H', ⟨Nat.le_refl _⟩, ⟨by (with_reducible repeat (first | apply R_alloc | apply R_drewN | apply R_drew)); exact R_mono (Kd.R_far (p := ⟨gb111, 3, none⟩) (Kd.R_far (p := ⟨gb111, 2, none⟩) (Kd.R_far (p := ⟨gb111, 1, none⟩) (Kd.R_far (p := ⟨gb111, 0, none⟩) (Kd.R_types HO110.out BK111.out (by decide)) (fun _ hk => hk.2) (.int .i64 a0_0)) (fun _ hk => hk.2) (.int .i64 a0_1)) (fun _ hk => hk.2) (.slice Ao12 y108.length co12)) (fun _ hk => hk.2) (.slice none 0 0)) (fun _ hk => trivial)⟩, ⟨by first | exact Kd.R_nil _ _ _ _ _ | exact Kd.N_nil _ _ _ _ _ | exact Kd.V_nil _ _ _ _ _ | exact Kd.Q_nil _ _ _ _ _ | exact Kd.S_nil _ _ _ _ _⟩, ⟨by (with_reducible repeat (first | refine blk_drewN ?_ _ | refine blk_drew ?_ | refine blk_alloc ?_ _)); refine blk_far ?_ NB103_111.out _; (with_reducible repeat (first | refine blk_drewN ?_ _ | refine blk_drew ?_ | refine blk_alloc ?_ _)); refine blk_far ?_ NB103_111.out _; (with_reducible repeat (first | refine blk_drewN ?_ _ | refine blk_drew ?_ | refine blk_alloc ?_ _)); refine blk_far ?_ NB103_111.out _; (with_reducible repeat (first | refine blk_drewN ?_ _ | refine blk_drew ?_ | refine blk_alloc ?_ _)); refine blk_far ?_ NB103_111.out _; (with_reducible repeat (first | refine blk_drewN ?_ _ | refine blk_drew ?_ | refine blk_alloc ?_ _)); exact BK103.out⟩, ⟨by (with_reducible repeat (first | refine blk_drewN ?_ _ | refine blk_drew ?_ | refine blk_alloc ?_ _)); refine blk_far ?_ NB104_111.out _; (with_reducible repeat (first | refine blk_drewN ?_ _ | refine blk_drew ?_ | refine blk_alloc ?_ _)); refine blk_far ?_ NB104_111.out _; (with_reducible repeat (first | refine blk_drewN ?_ _ | refine blk_drew ?_ | refine blk_alloc ?_ _)); refine blk_far ?_ NB104_111.out _; (with_reducible repeat (first | refine blk_drewN ?_ _ | refine blk_drew ?_ | refine blk_alloc ?_ _)); refine blk_far ?_ NB104_111.out _; (with_reducible repeat (first | refine blk_drewN ?_ _ | refine blk_drew ?_ | refine blk_alloc ?_ _)); exact BK104.out⟩, ⟨by (with_reducible repeat (first | refine blk_drewN ?_ _ | refine blk_drew ?_ | refine blk_alloc ?_ _)); refine blk_put (cs := #[.int .i64 a0_0, .int .i64 a0_1, .slice Ao12 y108.length co12, .slice none 0 0]) ?_ 3 _ rfl; (with_reducible repeat (first | refine blk_drewN ?_ _ | refine blk_drew ?_ | refine blk_alloc ?_ _)); refine blk_put (cs := #[.int .i64 a0_0, .int .i64 a0_1, .slice none 0 0, .slice none 0 0]) ?_ 2 _ rfl; (with_reducible repeat (first | refine blk_drewN ?_ _ | refine blk_drew ?_ | refine blk_alloc ?_ _)); refine blk_put (cs := #[.int .i64 a0_0, .int .i64 0, .slice none 0 0, .slice none 0 0]) ?_ 1 _ rfl; (with_reducible repeat (first | refine blk_drewN ?_ _ | refine blk_drew ?_ | refine blk_alloc ?_ _)); refine blk_put (cs := #[.int .i64 0, .int .i64 0, .slice none 0 0, .slice none 0 0]) ?_ 0 _ rfl; (with_reducible repeat (first | refine blk_drewN ?_ _ | refine blk_drew ?_ | refine blk_alloc ?_ _)); exact BK111.out⟩, ⟨by repeat (first | (with_reducible first | exact HB.out | apply below_alloc | apply pw_below_drewN | apply below_drew1 | refine below_set ?_ GE103.out | refine below_set ?_ GE104.out | refine below_set ?_ GE111.out) | exact HB.out)⟩⟩
  clear H'
  try clear c2
  try clear p2
  obtain ⟨x4_1, x112003_1, u112003, rfl, HA, HK1, HO_112002, HO_112003, BK103, BK104, BK111, HB⟩ := hrel
  rcases gk with _ | k1
  · exact absurd HA.out (by simp [fettleref02_CopyFunc.l0])
  have H := HA.out
  clear HA
  simp only [fettleref02_CopyFunc.l0] at H
  by_cases c17 : x4_1 < (l0_3.length : Int)
  · rw [if_pos c17] at H
    have c17b0 : decide (x4_1 < (l0_3.length : Int)) = true := decide_eq_true c17
    clear c17
    by_cases c18 : 0 ≤ x4_1
    rotate_left
    · rw [if_neg c18] at H
      exact absurd H (by simp)
    rw [if_pos c18] at H
    have c18b0 : decide (0 ≤ x4_1) = true := decide_eq_true c18
    clear c18
    obtain ⟨y114, hy114⟩ : ∃ y_ : List Int, y_ = (([] : List Int)) := ⟨_, rfl⟩
    replace H : (if y114.length + ((rd_T52 l0_3 x4_1).f2.f2).length < 17592186044416 then (fettleref02_CopyFunc.l1 k1 x4_1 0 a0_0 a0_1 l0_2 l0_3 a0_0 a0_1 y108 x112003_1 ((rd_T52 l0_3 x4_1).f0) ((rd_T52 l0_3 x4_1).f1) ((rd_T52 l0_3 x4_1).f2.f0) ((rd_T52 l0_3 x4_1).f2.f1) ((rd_T52 l0_3 x4_1).f2.f2) ([] : List (S62)) ((rd_T52 l0_3 x4_1).f2.f0) ((rd_T52 l0_3 x4_1).f2.f1) (y114 ++ ((rd_T52 l0_3 x4_1).f2.f2))) else (none)) = some (r1, r2, r3, r4) := by first | (rw [hy114]; with_reducible exact H) | (have H2_ := (Option.bind_some _ _).symm.trans H; rw [hy114]; with_reducible exact H2_) | exact H
    have Ny114 := Aside0.mk hy114
    clear hy114
    by_cases c19 : y114.length + ((rd_T52 l0_3 x4_1).f2.f2).length < 17592186044416
    rotate_left
    · rw [if_neg c19] at H
      exact absurd H (by simp)
    rw [if_pos c19] at H
    have LMc19 := Aside0.mk c19
    clear c19
    obtain ⟨y117, hy117⟩ : ∃ y_ : List Int, y_ = (y114 ++ ((rd_T52 l0_3 x4_1).f2.f2)) := ⟨_, rfl⟩
    replace H : (fettleref02_CopyFunc.l1 k1 x4_1 0 a0_0 a0_1 l0_2 l0_3 a0_0 a0_1 y108 x112003_1 ((rd_T52 l0_3 x4_1).f0) ((rd_T52 l0_3 x4_1).f1) ((rd_T52 l0_3 x4_1).f2.f0) ((rd_T52 l0_3 x4_1).f2.f1) ((rd_T52 l0_3 x4_1).f2.f2) ([] : List (S62)) ((rd_T52 l0_3 x4_1).f2.f0) ((rd_T52 l0_3 x4_1).f2.f1) y117) = some (r1, r2, r3, r4) := by first | (rw [hy117]; with_reducible exact H) | (have H2_ := (Option.bind_some _ _).symm.trans H; rw [hy117]; with_reducible exact H2_) | exact H
    have Ny117 := Aside0.mk hy117
    clear hy117
    have H' := Aside0.mk H
    clear H
    have hnb20 := NB103_104.out
    have hnc20 := NB104_103.out
    have hnb21 := NB103_111.out
    have hnc21 := NB111_103.out
    have hcz22_0 : wr.cell? ⟨gb103, 0, none⟩ = some (.int .i64 a0_0) := (blk_cell BK103.out 0).trans rfl
    have hcz22_1 : wr.cell? ⟨gb103, 1, none⟩ = some (.int .i64 a0_1) := (blk_cell BK103.out 1).trans rfl
    have hcz22_2 : wr.cell? ⟨gb103, 2, none⟩ = some (.slice A0_2 l0_2.length c0_2) := (blk_cell BK103.out 2).trans rfl
    have hcz22_3 : wr.cell? ⟨gb103, 3, none⟩ = some (.slice A0_3 l0_3.length c0_3) := (blk_cell BK103.out 3).trans rfl
    have hfz22_0 := blk_frozen BK103.out 0
    have hfz22_1 := blk_frozen BK103.out 1
    have hfz22_2 := blk_frozen BK103.out 2
    have hfz22_3 := blk_frozen BK103.out 3
    have p112 : 0 ≤ (x4_1 : Int) := of_decide_eq_true (by with_reducible assumption)
    have q112 : x4_1 < (l0_3.length : Int) := of_decide_eq_true (by with_reducible assumption)
    obtain ⟨ad112, A112_0, c112_0, A112_1, c112_1, A112_4, c112_4, e112, hx112_0, hx112_1, hx112_2, hx112_3, hx112_4, hl112_0, hi112_0, hl112_1, hi112_1, hl112_4, hi112_4⟩ := at_T52 HR0_3.out x4_1 p112 q112
    cases e112
    replace hx112_0 := (HB.out.cell (World.block_lt_of_cell? w _ hx112_0)).trans hx112_0
    replace hx112_1 := (HB.out.cell (World.block_lt_of_cell? w _ hx112_1)).trans hx112_1
    replace hx112_2 := (HB.out.cell (World.block_lt_of_cell? w _ hx112_2)).trans hx112_2
    replace hx112_3 := (HB.out.cell (World.block_lt_of_cell? w _ hx112_3)).trans hx112_3
    replace hx112_4 := (HB.out.cell (World.block_lt_of_cell? w _ hx112_4)).trans hx112_4
    have HR112_0 := Aside0.mk hi112_0
    have HC112_0 := Aside0.mk hl112_0
    clear hi112_0 hl112_0
    have HR112_1 := Aside0.mk hi112_1
    have HC112_1 := Aside0.mk hl112_1
    clear hi112_1 hl112_1
    have HR112_4 := Aside0.mk hi112_4
    have HC112_4 := Aside0.mk hl112_4
    clear hi112_4 hl112_4
    replace p112 := eq_true p112
    replace q112 := eq_true q112
    try go_wp2_with (first | ((with_reducible refine gate_dst (N := 5) rfl ?_); refine box_event ?hg (N := 5) ?hd (cs := #[.slice none 0 0, .slice none 0 0, .int .i64 0, .int .i64 0, .slice none 0 0]) (t := 52) ?hr ?_; (case hd => rfl); (case hg => rfl); (case hr => first | (go_simp; done) | (go_simp; rfl)); intro gb113 hg w23 hbox hb; have n0_ := Aside0.mk (Kd.R_below (ru HO_112002.out) hb); have n1_ := Aside0.mk (Kd.R_below (Kd.R_elderB (ru HO_112003.out) gb113 (Nat.le_of_eq hg.symm)) hb); have n2_ := Aside0.mk (blk_below (bu BK103.out) hb); have n3_ := Aside0.mk (blk_below (bu BK104.out) hb); have n4_ := Aside0.mk (blk_below (bu BK111.out) hb); have n5_ := Aside0.mk (below_step (by repeat with_reducible first | exact HB.out | apply below_alloc | apply pw_below_drewN | apply below_drew1 | refine below_set ?_ GE103.out | refine below_set ?_ GE104.out | refine below_set ?_ GE111.out) hb); have n6_ := Aside0.mk (hbox); have n7_ := Aside0.mk ((by rw [hg]; exact (below_size (by repeat with_reducible first | exact HB.out | apply below_alloc | apply pw_below_drewN | apply below_drew1 | refine below_set ?_ GE103.out | refine below_set ?_ GE104.out | refine below_set ?_ GE111.out)) : w.heap.size ≤ gb113)); have n8_ := Aside0.mk ((by rw [hg]; exact (below_size (by repeat with_reducible first | exact HB.out | apply below_alloc | apply pw_below_drewN | apply below_drew1 | refine below_set ?_ GE103.out | refine below_set ?_ GE104.out | refine below_set ?_ GE111.out)) : w.heap.size ≤ gb113)); have n9_ := Aside0.mk ((by rw [hg]; exact Nat.ne_of_lt (blk_lt (bu BK103.out)) : gb103 ≠ gb113)); have n10_ := Aside0.mk ((by rw [hg]; exact Nat.ne_of_gt (blk_lt (bu BK103.out)) : gb113 ≠ gb103)); have n11_ := Aside0.mk ((by rw [hg]; exact Nat.ne_of_lt (blk_lt (bu BK104.out)) : gb104 ≠ gb113)); have n12_ := Aside0.mk ((by rw [hg]; exact Nat.ne_of_gt (blk_lt (bu BK104.out)) : gb113 ≠ gb104)); have n13_ := Aside0.mk ((by rw [hg]; exact Nat.ne_of_lt (blk_lt (bu BK111.out)) : gb111 ≠ gb113)); have n14_ := Aside0.mk ((by rw [hg]; exact Nat.ne_of_gt (blk_lt (bu BK111.out)) : gb113 ≠ gb111)); clear HO_112002; clear HO_112003; clear BK103; clear BK104; clear BK111; clear HB; have HO_112002 := n0_; have HO_112003 := n1_; have BK103 := n2_; have BK104 := n3_; have BK111 := n4_; have HB := n5_; have BK113 := n6_; have GW113 := n7_; have GE113 := n8_; have NB103_113 := n9_; have NB113_103 := n10_; have NB104_113 := n11_; have NB113_104 := n12_; have NB111_113 := n13_; have NB113_111 := n14_; clear n0_ n1_ n2_ n3_ n4_ n5_ n6_ n7_ n8_ n9_ n10_ n11_ n12_ n13_ n14_; clear hb hbox hg; have hnb24 := NB113_103.out; have hnc24 := NB103_113.out; have hnb25 := NB113_104.out; have hnc25 := NB104_113.out; have hnb26 := NB113_111.out; have hnc26 := NB111_113.out; have hcz27_0 : w23.cell? ⟨gb113, 0, none⟩ = some (.slice none 0 0) := (blk_cell BK113.out 0).trans rfl; have hcz27_1 : w23.cell? ⟨gb113, 1, none⟩ = some (.slice none 0 0) := (blk_cell BK113.out 1).trans rfl; have hcz27_2 : w23.cell? ⟨gb113, 2, none⟩ = some (.int .i64 0) := (blk_cell BK113.out 2).trans rfl; have hcz27_3 : w23.cell? ⟨gb113, 3, none⟩ = some (.int .i64 0) := (blk_cell BK113.out 3).trans rfl; have hcz27_4 : w23.cell? ⟨gb113, 4, none⟩ = some (.slice none 0 0) := (blk_cell BK113.out 4).trans rfl; have hfz27_0 := blk_frozen BK113.out 0; have hfz27_1 := blk_frozen BK113.out 1; have hfz27_2 := blk_frozen BK113.out 2; have hfz27_3 := blk_frozen BK113.out 3; have hfz27_4 := blk_frozen BK113.out 4))
    have n0_ : Aside0 (Kd.R (Kd.int .i64) 3 (((((w23.setCell ⟨gb113, 0, none⟩ (.slice A112_0 ((rd_T52 l0_3 x4_1).f0).length c112_0)).setCell ⟨gb113, 1, none⟩ (.slice A112_1 ((rd_T52 l0_3 x4_1).f1).length c112_1)).setCell ⟨gb113, 2, none⟩ (.int .i64 ((rd_T52 l0_3 x4_1).f2.f0))).setCell ⟨gb113, 3, none⟩ (.int .i64 ((rd_T52 l0_3 x4_1).f2.f1))).setCell ⟨gb113, 4, none⟩ (.slice A112_4 ((rd_T52 l0_3 x4_1).f2.f2).length c112_4)) w.heap.size (fun _ => True) (.slice Ao12 y108.length co12) y108) := ⟨ru (R_mono (Kd.R_far (p := ⟨gb113, 4, none⟩) (Kd.R_far (p := ⟨gb113, 3, none⟩) (Kd.R_far (p := ⟨gb113, 2, none⟩) (Kd.R_far (p := ⟨gb113, 1, none⟩) (Kd.R_far (p := ⟨gb113, 0, none⟩) (Kd.R_types HO_112002.out BK113.out (by decide)) (fun _ hk => hk.2) (.slice A112_0 ((rd_T52 l0_3 x4_1).f0).length c112_0)) (fun _ hk => hk.2) (.slice A112_1 ((rd_T52 l0_3 x4_1).f1).length c112_1)) (fun _ hk => hk.2) (.int .i64 ((rd_T52 l0_3 x4_1).f2.f0))) (fun _ hk => hk.2) (.int .i64 ((rd_T52 l0_3 x4_1).f2.f1))) (fun _ hk => hk.2) (.slice A112_4 ((rd_T52 l0_3 x4_1).f2.f2).length c112_4)) (fun _ hk => trivial))⟩
    have n1_ : Aside0 (Kd.R k52 52 (((((w23.setCell ⟨gb113, 0, none⟩ (.slice A112_0 ((rd_T52 l0_3 x4_1).f0).length c112_0)).setCell ⟨gb113, 1, none⟩ (.slice A112_1 ((rd_T52 l0_3 x4_1).f1).length c112_1)).setCell ⟨gb113, 2, none⟩ (.int .i64 ((rd_T52 l0_3 x4_1).f2.f0))).setCell ⟨gb113, 3, none⟩ (.int .i64 ((rd_T52 l0_3 x4_1).f2.f1))).setCell ⟨gb113, 4, none⟩ (.slice A112_4 ((rd_T52 l0_3 x4_1).f2.f2).length c112_4)) w.heap.size (fun k_ => some k_ ≠ (.slice Ao12 y108.length co12 : Value).ownBlock ∧ k_ ≠ gb113) u112003 x112003_1) := ⟨ru (R_mono (Kd.R_far (p := ⟨gb113, 4, none⟩) (Kd.R_far (p := ⟨gb113, 3, none⟩) (Kd.R_far (p := ⟨gb113, 2, none⟩) (Kd.R_far (p := ⟨gb113, 1, none⟩) (Kd.R_far (p := ⟨gb113, 0, none⟩) (R_mono HO_112003.out (fun k_ hk => (⟨hk, hk.2⟩ : _ ∧ k_ ≠ gb113))) (fun _ hk => hk.2) (.slice A112_0 ((rd_T52 l0_3 x4_1).f0).length c112_0)) (fun _ hk => hk.2) (.slice A112_1 ((rd_T52 l0_3 x4_1).f1).length c112_1)) (fun _ hk => hk.2) (.int .i64 ((rd_T52 l0_3 x4_1).f2.f0))) (fun _ hk => hk.2) (.int .i64 ((rd_T52 l0_3 x4_1).f2.f1))) (fun _ hk => hk.2) (.slice A112_4 ((rd_T52 l0_3 x4_1).f2.f2).length c112_4)) (fun _ hk => ⟨hk.1.1, hk.1.2⟩))⟩
    have n2_ : Aside0 ((((((w23.setCell ⟨gb113, 0, none⟩ (.slice A112_0 ((rd_T52 l0_3 x4_1).f0).length c112_0)).setCell ⟨gb113, 1, none⟩ (.slice A112_1 ((rd_T52 l0_3 x4_1).f1).length c112_1)).setCell ⟨gb113, 2, none⟩ (.int .i64 ((rd_T52 l0_3 x4_1).f2.f0))).setCell ⟨gb113, 3, none⟩ (.int .i64 ((rd_T52 l0_3 x4_1).f2.f1))).setCell ⟨gb113, 4, none⟩ (.slice A112_4 ((rd_T52 l0_3 x4_1).f2.f2).length c112_4)).heap[gb103]? = some (.cells #[.int .i64 a0_0, .int .i64 a0_1, .slice A0_2 l0_2.length c0_2, .slice (some ad112) l0_3.length c0_3] 25 (0, 0))) := ⟨by (with_reducible repeat (first | refine blk_drewN ?_ _ | refine blk_drew ?_ | refine blk_alloc ?_ _)); refine blk_far ?_ NB103_113.out _; (with_reducible repeat (first | refine blk_drewN ?_ _ | refine blk_drew ?_ | refine blk_alloc ?_ _)); refine blk_far ?_ NB103_113.out _; (with_reducible repeat (first | refine blk_drewN ?_ _ | refine blk_drew ?_ | refine blk_alloc ?_ _)); refine blk_far ?_ NB103_113.out _; (with_reducible repeat (first | refine blk_drewN ?_ _ | refine blk_drew ?_ | refine blk_alloc ?_ _)); refine blk_far ?_ NB103_113.out _; (with_reducible repeat (first | refine blk_drewN ?_ _ | refine blk_drew ?_ | refine blk_alloc ?_ _)); refine blk_far ?_ NB103_113.out _; (with_reducible repeat (first | refine blk_drewN ?_ _ | refine blk_drew ?_ | refine blk_alloc ?_ _)); exact BK103.out⟩
    have n3_ : Aside0 ((((((w23.setCell ⟨gb113, 0, none⟩ (.slice A112_0 ((rd_T52 l0_3 x4_1).f0).length c112_0)).setCell ⟨gb113, 1, none⟩ (.slice A112_1 ((rd_T52 l0_3 x4_1).f1).length c112_1)).setCell ⟨gb113, 2, none⟩ (.int .i64 ((rd_T52 l0_3 x4_1).f2.f0))).setCell ⟨gb113, 3, none⟩ (.int .i64 ((rd_T52 l0_3 x4_1).f2.f1))).setCell ⟨gb113, 4, none⟩ (.slice A112_4 ((rd_T52 l0_3 x4_1).f2.f2).length c112_4)).heap[gb104]? = some (.cells #[.int .i64 0, .int .i64 0, .slice none 0 0, .slice none 0 0] 25 (0, 0))) := ⟨by (with_reducible repeat (first | refine blk_drewN ?_ _ | refine blk_drew ?_ | refine blk_alloc ?_ _)); refine blk_far ?_ NB104_113.out _; (with_reducible repeat (first | refine blk_drewN ?_ _ | refine blk_drew ?_ | refine blk_alloc ?_ _)); refine blk_far ?_ NB104_113.out _; (with_reducible repeat (first | refine blk_drewN ?_ _ | refine blk_drew ?_ | refine blk_alloc ?_ _)); refine blk_far ?_ NB104_113.out _; (with_reducible repeat (first | refine blk_drewN ?_ _ | refine blk_drew ?_ | refine blk_alloc ?_ _)); refine blk_far ?_ NB104_113.out _; (with_reducible repeat (first | refine blk_drewN ?_ _ | refine blk_drew ?_ | refine blk_alloc ?_ _)); refine blk_far ?_ NB104_113.out _; (with_reducible repeat (first | refine blk_drewN ?_ _ | refine blk_drew ?_ | refine blk_alloc ?_ _)); exact BK104.out⟩
    have n4_ : Aside0 ((((((w23.setCell ⟨gb113, 0, none⟩ (.slice A112_0 ((rd_T52 l0_3 x4_1).f0).length c112_0)).setCell ⟨gb113, 1, none⟩ (.slice A112_1 ((rd_T52 l0_3 x4_1).f1).length c112_1)).setCell ⟨gb113, 2, none⟩ (.int .i64 ((rd_T52 l0_3 x4_1).f2.f0))).setCell ⟨gb113, 3, none⟩ (.int .i64 ((rd_T52 l0_3 x4_1).f2.f1))).setCell ⟨gb113, 4, none⟩ (.slice A112_4 ((rd_T52 l0_3 x4_1).f2.f2).length c112_4)).heap[gb111]? = some (.cells #[.int .i64 a0_0, .int .i64 a0_1, .slice Ao12 y108.length co12, u112003] 25 (0, 0))) := ⟨by (with_reducible repeat (first | refine blk_drewN ?_ _ | refine blk_drew ?_ | refine blk_alloc ?_ _)); refine blk_far ?_ NB111_113.out _; (with_reducible repeat (first | refine blk_drewN ?_ _ | refine blk_drew ?_ | refine blk_alloc ?_ _)); refine blk_far ?_ NB111_113.out _; (with_reducible repeat (first | refine blk_drewN ?_ _ | refine blk_drew ?_ | refine blk_alloc ?_ _)); refine blk_far ?_ NB111_113.out _; (with_reducible repeat (first | refine blk_drewN ?_ _ | refine blk_drew ?_ | refine blk_alloc ?_ _)); refine blk_far ?_ NB111_113.out _; (with_reducible repeat (first | refine blk_drewN ?_ _ | refine blk_drew ?_ | refine blk_alloc ?_ _)); refine blk_far ?_ NB111_113.out _; (with_reducible repeat (first | refine blk_drewN ?_ _ | refine blk_drew ?_ | refine blk_alloc ?_ _)); exact BK111.out⟩
    have n5_ : Aside0 ((((((w23.setCell ⟨gb113, 0, none⟩ (.slice A112_0 ((rd_T52 l0_3 x4_1).f0).length c112_0)).setCell ⟨gb113, 1, none⟩ (.slice A112_1 ((rd_T52 l0_3 x4_1).f1).length c112_1)).setCell ⟨gb113, 2, none⟩ (.int .i64 ((rd_T52 l0_3 x4_1).f2.f0))).setCell ⟨gb113, 3, none⟩ (.int .i64 ((rd_T52 l0_3 x4_1).f2.f1))).setCell ⟨gb113, 4, none⟩ (.slice A112_4 ((rd_T52 l0_3 x4_1).f2.f2).length c112_4)).heap[gb113]? = some (.cells #[.slice A112_0 ((rd_T52 l0_3 x4_1).f0).length c112_0, .slice A112_1 ((rd_T52 l0_3 x4_1).f1).length c112_1, .int .i64 ((rd_T52 l0_3 x4_1).f2.f0), .int .i64 ((rd_T52 l0_3 x4_1).f2.f1), .slice A112_4 ((rd_T52 l0_3 x4_1).f2.f2).length c112_4] 52 (0, 0))) := ⟨by (with_reducible repeat (first | refine blk_drewN ?_ _ | refine blk_drew ?_ | refine blk_alloc ?_ _)); refine blk_put (cs := #[.slice A112_0 ((rd_T52 l0_3 x4_1).f0).length c112_0, .slice A112_1 ((rd_T52 l0_3 x4_1).f1).length c112_1, .int .i64 ((rd_T52 l0_3 x4_1).f2.f0), .int .i64 ((rd_T52 l0_3 x4_1).f2.f1), .slice none 0 0]) ?_ 4 _ rfl; (with_reducible repeat (first | refine blk_drewN ?_ _ | refine blk_drew ?_ | refine blk_alloc ?_ _)); refine blk_put (cs := #[.slice A112_0 ((rd_T52 l0_3 x4_1).f0).length c112_0, .slice A112_1 ((rd_T52 l0_3 x4_1).f1).length c112_1, .int .i64 ((rd_T52 l0_3 x4_1).f2.f0), .int .i64 0, .slice none 0 0]) ?_ 3 _ rfl; (with_reducible repeat (first | refine blk_drewN ?_ _ | refine blk_drew ?_ | refine blk_alloc ?_ _)); refine blk_put (cs := #[.slice A112_0 ((rd_T52 l0_3 x4_1).f0).length c112_0, .slice A112_1 ((rd_T52 l0_3 x4_1).f1).length c112_1, .int .i64 0, .int .i64 0, .slice none 0 0]) ?_ 2 _ rfl; (with_reducible repeat (first | refine blk_drewN ?_ _ | refine blk_drew ?_ | refine blk_alloc ?_ _)); refine blk_put (cs := #[.slice A112_0 ((rd_T52 l0_3 x4_1).f0).length c112_0, .slice none 0 0, .int .i64 0, .int .i64 0, .slice none 0 0]) ?_ 1 _ rfl; (with_reducible repeat (first | refine blk_drewN ?_ _ | refine blk_drew ?_ | refine blk_alloc ?_ _)); refine blk_put (cs := #[.slice none 0 0, .slice none 0 0, .int .i64 0, .int .i64 0, .slice none 0 0]) ?_ 0 _ rfl; (with_reducible repeat (first | refine blk_drewN ?_ _ | refine blk_drew ?_ | refine blk_alloc ?_ _)); exact BK113.out⟩
    have n6_ : Aside0 (Below w.heap.size w (((((w23.setCell ⟨gb113, 0, none⟩ (.slice A112_0 ((rd_T52 l0_3 x4_1).f0).length c112_0)).setCell ⟨gb113, 1, none⟩ (.slice A112_1 ((rd_T52 l0_3 x4_1).f1).length c112_1)).setCell ⟨gb113, 2, none⟩ (.int .i64 ((rd_T52 l0_3 x4_1).f2.f0))).setCell ⟨gb113, 3, none⟩ (.int .i64 ((rd_T52 l0_3 x4_1).f2.f1))).setCell ⟨gb113, 4, none⟩ (.slice A112_4 ((rd_T52 l0_3 x4_1).f2.f2).length c112_4))) := ⟨by repeat (first | (with_reducible first | exact HB.out | apply below_alloc | apply pw_below_drewN | apply below_drew1 | refine below_set ?_ GE103.out | refine below_set ?_ GE104.out | refine below_set ?_ GE111.out | refine below_set ?_ GE113.out) | exact HB.out)⟩
    (try clear HO_112002)
    (try clear HO_112003)
    (try clear BK103)
    (try clear BK104)
    (try clear BK111)
    (try clear BK113)
    (try clear HB)
    generalize (((((w23.setCell ⟨gb113, 0, none⟩ (.slice A112_0 ((rd_T52 l0_3 x4_1).f0).length c112_0)).setCell ⟨gb113, 1, none⟩ (.slice A112_1 ((rd_T52 l0_3 x4_1).f1).length c112_1)).setCell ⟨gb113, 2, none⟩ (.int .i64 ((rd_T52 l0_3 x4_1).f2.f0))).setCell ⟨gb113, 3, none⟩ (.int .i64 ((rd_T52 l0_3 x4_1).f2.f1))).setCell ⟨gb113, 4, none⟩ (.slice A112_4 ((rd_T52 l0_3 x4_1).f2.f2).length c112_4)) = w28 at n0_ n1_ n2_ n3_ n4_ n5_ n6_ ⊢
    have HO_112002 := n0_
    have HO_112003 := n1_
    have BK103 := n2_
    have BK104 := n3_
    have BK111 := n4_
    have BK113 := n5_
    have HB := n6_
    clear n0_ n1_ n2_ n3_ n4_ n5_ n6_
    have n0_ := Aside0.mk (R_drew HO_112002.out)
    have n1_ := Aside0.mk (R_drew HO_112003.out)
    have n2_ := Aside0.mk (blk_drew BK103.out)
    have n3_ := Aside0.mk (blk_drew BK104.out)
    have n4_ := Aside0.mk (blk_drew BK111.out)
    have n5_ := Aside0.mk (blk_drew BK113.out)
    have n6_ := Aside0.mk (below_drew1 HB.out)
    clear HO_112002
    clear HO_112003
    clear BK103
    clear BK104
    clear BK111
    clear BK113
    clear HB
    have HO_112002 := n0_
    have HO_112003 := n1_
    have BK103 := n2_
    have BK104 := n3_
    have BK111 := n4_
    have BK113 := n5_
    have HB := n6_
    clear n0_ n1_ n2_ n3_ n4_ n5_ n6_
    refine start_ (n := 15) (S := fun w' => w'.cell? ⟨gb113, 0, none⟩ = some (.slice A112_0 ((rd_T52 l0_3 x4_1).f0).length c112_0) ∧ w'.cell? ⟨gb113, 1, none⟩ = some (.slice A112_1 ((rd_T52 l0_3 x4_1).f1).length c112_1) ∧ w'.cell? ⟨gb113, 2, none⟩ = some (.int .i64 ((rd_T52 l0_3 x4_1).f2.f0)) ∧ w'.cell? ⟨gb113, 3, none⟩ = some (.int .i64 ((rd_T52 l0_3 x4_1).f2.f1)) ∧ w'.cell? ⟨gb113, 4, none⟩ = some (.slice A112_4 ((rd_T52 l0_3 x4_1).f2.f2).length c112_4)) (ds := []) #[false, false, false, false, false, false, false, false, false, false, false, false, false, false, false] (by kernel_rfl) rfl rfl ⟨(blk_cell BK113.out 0).trans rfl, (blk_cell BK113.out 1).trans rfl, (blk_cell BK113.out 2).trans rfl, (blk_cell BK113.out 3).trans rfl, (blk_cell BK113.out 4).trans rfl⟩ (fun hHeld => ?_); refine with_tabW fettleref02_CopyFunc.tab6 fettleref02_CopyFunc.bits6 (fun HT_ HW_ => ?_)
    generalize w28.drew = w29 at HO_112002 HO_112003 BK103 BK104 BK111 BK113 HB hHeld ⊢
    refine pu 0 31 (bt 15 1) HT_.out ?_
    refine pu 1 32 (bt 15 3) HT_.out ?_
    refine pu 3 34 (bt 15 11) HT_.out ?_
    refine pu 4 35 (bt 15 27) HT_.out ?_
    refine pu 7 38 (bt 15 155) HT_.out ?_
    refine pu 8 39 (bt 15 411) HT_.out ?_
    refine tk 2 33 (bt 15 415) HT_.out HW_.out hHeld rfl rfl (by rintro w' ⟨s0, s1, s2, s3, s4⟩; go_simp; with_reducible rfl) ?_
    refine tk 5 36 (bt 15 447) HT_.out HW_.out hHeld rfl rfl (by rintro w' ⟨s0, s1, s2, s3, s4⟩; go_simp; with_reducible rfl) ?_
    refine tk 9 40 (bt 15 959) HT_.out HW_.out hHeld rfl rfl (by rintro w' ⟨s0, s1, s2, s3, s4⟩; go_simp; with_reducible rfl) ?_
    refine join_ (σ := Value × Value × Nat) 1 (bt 15 16383) (fun s_ => [(37, s_.1), (41, s_.2.1), (6, .pointer (some ⟨s_.2.2, 0, none⟩)), (42, .agg #[.int .i64 ((rd_T52 l0_3 x4_1).f2.f0), .int .i64 ((rd_T52 l0_3 x4_1).f2.f1), s_.2.1]), (43, .agg #[.slice none 0 0, .slice none 0 0, .int .i64 ((rd_T52 l0_3 x4_1).f2.f0), .int .i64 ((rd_T52 l0_3 x4_1).f2.f1), s_.2.1])]) (fun s_ w' => (w'.cell? ⟨gb113, 0, none⟩ = some (.slice A112_0 ((rd_T52 l0_3 x4_1).f0).length c112_0) ∧ w'.cell? ⟨gb113, 1, none⟩ = some (.slice A112_1 ((rd_T52 l0_3 x4_1).f1).length c112_1) ∧ w'.cell? ⟨gb113, 2, none⟩ = some (.int .i64 ((rd_T52 l0_3 x4_1).f2.f0)) ∧ w'.cell? ⟨gb113, 3, none⟩ = some (.int .i64 ((rd_T52 l0_3 x4_1).f2.f1)) ∧ w'.cell? ⟨gb113, 4, none⟩ = some (.slice A112_4 ((rd_T52 l0_3 x4_1).f2.f2).length c112_4)) ∧ (Kd.R (Kd.int .i64) 3 w' w.heap.size (fun k_ => some k_ ≠ (.slice Ao12 y108.length co12 : Value).ownBlock) s_.2.1 y117) ∧ (Kd.R (Kd.int .i64) 3 w' w.heap.size (fun k_ => some k_ ≠ (s_.2.1 : Value).ownBlock) (.slice Ao12 y108.length co12) y108) ∧ (Kd.R k52 52 w' w.heap.size (fun k_ => some k_ ≠ (s_.2.1 : Value).ownBlock ∧ some k_ ≠ (.slice Ao12 y108.length co12 : Value).ownBlock ∧ k_ ≠ gb113 ∧ k_ ≠ s_.2.2) u112003 x112003_1) ∧ (w'.heap[gb103]? = some (.cells #[.int .i64 a0_0, .int .i64 a0_1, .slice A0_2 l0_2.length c0_2, .slice (some ad112) l0_3.length c0_3] 25 (0, 0))) ∧ (w'.heap[gb104]? = some (.cells #[.int .i64 0, .int .i64 0, .slice none 0 0, .slice none 0 0] 25 (0, 0))) ∧ (w'.heap[gb111]? = some (.cells #[.int .i64 a0_0, .int .i64 a0_1, .slice Ao12 y108.length co12, u112003] 25 (0, 0))) ∧ (w'.heap[gb113]? = some (.cells #[.slice A112_0 ((rd_T52 l0_3 x4_1).f0).length c112_0, .slice A112_1 ((rd_T52 l0_3 x4_1).f1).length c112_1, .int .i64 ((rd_T52 l0_3 x4_1).f2.f0), .int .i64 ((rd_T52 l0_3 x4_1).f2.f1), .slice A112_4 ((rd_T52 l0_3 x4_1).f2.f2).length c112_4] 52 (0, 0))) ∧ (w'.heap[s_.2.2]? = some (.cells #[.slice none 0 0, .slice none 0 0, .int .i64 0, .int .i64 0, .slice none 0 0] 52 (0, 0))) ∧ (w.heap.size ≤ s_.2.2) ∧ (w.heap.size ≤ s_.2.2) ∧ (gb103 ≠ s_.2.2) ∧ (s_.2.2 ≠ gb103) ∧ (gb104 ≠ s_.2.2) ∧ (s_.2.2 ≠ gb104) ∧ (gb111 ≠ s_.2.2) ∧ (s_.2.2 ≠ gb111) ∧ (gb113 ≠ s_.2.2) ∧ (s_.2.2 ≠ gb113) ∧ (Below w.heap.size w w')) ?_ ?_
    rotate_left
    · intro hCont
      refine two_ (i := 6) (j := 13) (Ni := some 37) (Nj := some 6) (bt 15 1023) (bt 15 9151) rfl rfl rfl rfl (two_of HT_.out (by kernel_rfl)) (by decide) (by decide) (fun K hK => ?_) (fun K hK => ?_)
      · skip
        refine Kd.R_lit_step (Kd.int .i64) _ 3 ?hg (N := 37) ?hd (xs := ([] : List Int)) (inner := []) (ok := fun _ => True) (okp := fun _ => True) ?hr ?hp (fun _ hk => hk) trivial (Below.refl _ _) (Nat.le_refl _) (by simp) ?_; (case hd => rfl); (case hg => rfl); (case hr => first | (go_simp; done) | (go_simp; rfl)); (case hp => exact (Reps.none _ _))
        intro v115 w30 ho31 hb hg_ hnew_
        clear hg_ hnew_
        rw [← Ny114.out] at ho31
        have n0_ := Aside0.mk (R_elder' (ru HO_112002.out) (R_base ho31) hb)
        have n1_ := Aside0.mk (R_elder' (ru HO_112003.out) (R_base ho31) hb)
        have n2_ := Aside0.mk (Kd.R_lower (R_new' ho31 (R_lt (ru HO_112002.out))) (below_size (by repeat with_reducible first | exact HB.out | apply below_alloc | apply pw_below_drewN | apply below_drew1 | refine below_set ?_ GE103.out | refine below_set ?_ GE104.out | refine below_set ?_ GE111.out | refine below_set ?_ GE113.out)))
        have n3_ := Aside0.mk (blk_below (bu BK103.out) hb)
        have n4_ := Aside0.mk (blk_below (bu BK104.out) hb)
        have n5_ := Aside0.mk (blk_below (bu BK111.out) hb)
        have n6_ := Aside0.mk (blk_below (bu BK113.out) hb)
        have n7_ := Aside0.mk (below_step (by repeat with_reducible first | exact HB.out | apply below_alloc | apply pw_below_drewN | apply below_drew1 | refine below_set ?_ GE103.out | refine below_set ?_ GE104.out | refine below_set ?_ GE111.out | refine below_set ?_ GE113.out) hb)
        clear HO_112002
        clear HO_112003
        clear BK103
        clear BK104
        clear BK111
        clear BK113
        clear HB
        have HO_112002 := n0_
        have HO_112003 := n1_
        have HO116 := n2_
        have BK103 := n3_
        have BK104 := n4_
        have BK111 := n5_
        have BK113 := n6_
        have HB := n7_
        clear n0_ n1_ n2_ n3_ n4_ n5_ n6_ n7_
        clear hb ho31
        refine hK.out _ _ ⟨(blk_cell BK113.out 0).trans rfl, (blk_cell BK113.out 1).trans rfl, (blk_cell BK113.out 2).trans rfl, (blk_cell BK113.out 3).trans rfl, (blk_cell BK113.out 4).trans rfl⟩ (fun hHeld => ?_)
        clear hK K
        refine norm_ (a' := ?_) ?_ ?_
        rotate_left
        · show Act.put _ (some 37) _ = _
          simp only [Act.put, List.setIfInBounds_toArray, List.set_cons_zero, List.set_cons_succ, i64_w, i32_w]
          rfl
        refine two_ (i := 10) (j := 13) (Ni := some 41) (Nj := some 6) (bt 15 2047) (bt 15 9215) rfl rfl rfl rfl (two_of HT_.out (by kernel_rfl)) (by decide) (by decide) (fun K hK => ?_) (fun K hK => ?_)
        · skip
          refine Kd.R_append_rows_step (Kd.int .i64) (w0 := w) w.heap.size (by rfl) (.tmp 37) (.tmp 40) 22 3 (.int .i64 0) 8 rfl Try.underlying22 info3 rfl (by decide) (by omega) v115 y114 ((rd_T52 l0_3 x4_1).f2.f2) _ _ _ (fun k_ => some k_ ≠ (.slice Ao12 y108.length co12 : Value).ownBlock) (fun _ => False) rfl rfl ?aO ?aR (fun _ _ h => h) (fun _ h => h.elim) ?aF ?aB ?aS ?aL ?_
          (case aR => exact cu (C_below HR112_4.out HB.out))
          (case aB => exact (by repeat with_reducible first | exact HB.out | apply below_alloc | apply pw_below_drewN | apply below_drew1 | refine below_set ?_ GE103.out | refine below_set ?_ GE104.out | refine below_set ?_ GE111.out | refine below_set ?_ GE113.out))
          (case aF => exact (fun k_ hk => Kd.fresh' (R_lt (ru HO_112002.out)) k_ hk))
          (case aO => exact (ru (R_mono HO116.out (fun _ hk => hk.2))))
          (case aS => exact (below_size (by repeat with_reducible first | exact HB.out | apply below_alloc | apply pw_below_drewN | apply below_drew1 | refine below_set ?_ GE103.out | refine below_set ?_ GE104.out | refine below_set ?_ GE111.out | refine below_set ?_ GE113.out)))
          (case aL => have := LMc19.out; omega)
          intro v118 w32 ho hb hg hat
          rw [← Ny117.out] at ho
          have n0_ := Aside0.mk (Kd.R_after (ok := (fun _ => True)) (ru HO_112002.out) hg hat)
          have n1_ := Aside0.mk (Kd.R_after (ok := (fun k_ => some k_ ≠ (.slice Ao12 y108.length co12 : Value).ownBlock ∧ k_ ≠ gb113)) (ru HO_112003.out) hg hat)
          have n2_ := Aside0.mk (blk_grown (bu BK103.out) hg (Kd.R_ne HO116.out BK103.out (by decide)))
          have n3_ := Aside0.mk (blk_grown (bu BK104.out) hg (Kd.R_ne HO116.out BK104.out (by decide)))
          have n4_ := Aside0.mk (blk_grown (bu BK111.out) hg (Kd.R_ne HO116.out BK111.out (by decide)))
          have n5_ := Aside0.mk (blk_grown (bu BK113.out) hg (Kd.R_ne HO116.out BK113.out (by decide)))
          have n6_ := Aside0.mk (hb)
          have n7_ := Aside0.mk (ho)
          clear HO_112002
          clear HO_112003
          clear BK103
          clear BK104
          clear BK111
          clear BK113
          clear HB
          clear HO116
          have HO_112002 := n0_
          have HO_112003 := n1_
          have BK103 := n2_
          have BK104 := n3_
          have BK111 := n4_
          have BK113 := n5_
          have HB := n6_
          have HO119 := n7_
          clear n0_ n1_ n2_ n3_ n4_ n5_ n6_ n7_
          clear ho hb hg hat
          obtain ⟨Ao33, co33, eo33⟩ := Kd.R_slice HO119.out
          (first | subst eo33 | (injection eo33 with f1_ f2_ f3_; have f4_ := f1_.symm; have f5_ := f3_.symm; clear f1_ f2_ f3_; subst f4_; subst f5_))
          refine hK.out _ _ ⟨(blk_cell BK113.out 0).trans rfl, (blk_cell BK113.out 1).trans rfl, (blk_cell BK113.out 2).trans rfl, (blk_cell BK113.out 3).trans rfl, (blk_cell BK113.out 4).trans rfl⟩ (fun hHeld => ?_)
          clear hK K
          refine norm_ (a' := ?_) ?_ ?_
          rotate_left
          · show Act.put _ (some 41) _ = _
            simp only [Act.put, List.setIfInBounds_toArray, List.set_cons_zero, List.set_cons_succ, i64_w, i32_w]
            rfl
          refine pu 11 42 (bt 15 4095) HT_.out ?_
          refine pu 12 43 (bt 15 8191) HT_.out ?_
          refine one_ (i := 13) (N := some 6) (bt 15 16383) rfl rfl (one_of HT_.out (by kernel_rfl)) (by decide) (fun K hK => ?_)
          refine box_step ?hg (N := 6) ?hd (cs := #[.slice none 0 0, .slice none 0 0, .int .i64 0, .int .i64 0, .slice none 0 0]) (t := 52) ?hr ?_; (case hd => rfl); (case hg => rfl); (case hr => first | (go_simp; done) | (go_simp; rfl))
          intro gb120 hg w34 hbox hb
          have n0_ := Aside0.mk (Kd.R_below (ru HO_112002.out) hb)
          have n1_ := Aside0.mk (Kd.R_below (Kd.R_elderB (ru HO_112003.out) gb120 (Nat.le_of_eq hg.symm)) hb)
          have n2_ := Aside0.mk (Kd.R_below (ru HO119.out) hb)
          have n3_ := Aside0.mk (blk_below (bu BK103.out) hb)
          have n4_ := Aside0.mk (blk_below (bu BK104.out) hb)
          have n5_ := Aside0.mk (blk_below (bu BK111.out) hb)
          have n6_ := Aside0.mk (blk_below (bu BK113.out) hb)
          have n7_ := Aside0.mk (below_step (by repeat with_reducible first | exact HB.out | apply below_alloc | apply pw_below_drewN | apply below_drew1 | refine below_set ?_ GE103.out | refine below_set ?_ GE104.out | refine below_set ?_ GE111.out | refine below_set ?_ GE113.out) hb)
          have n8_ := Aside0.mk (hbox)
          have n9_ := Aside0.mk ((by rw [hg]; exact (below_size (by repeat with_reducible first | exact HB.out | apply below_alloc | apply pw_below_drewN | apply below_drew1 | refine below_set ?_ GE103.out | refine below_set ?_ GE104.out | refine below_set ?_ GE111.out | refine below_set ?_ GE113.out)) : w.heap.size ≤ gb120))
          have n10_ := Aside0.mk ((by rw [hg]; exact (below_size (by repeat with_reducible first | exact HB.out | apply below_alloc | apply pw_below_drewN | apply below_drew1 | refine below_set ?_ GE103.out | refine below_set ?_ GE104.out | refine below_set ?_ GE111.out | refine below_set ?_ GE113.out)) : w.heap.size ≤ gb120))
          have n11_ := Aside0.mk ((by rw [hg]; exact Nat.ne_of_lt (blk_lt (bu BK103.out)) : gb103 ≠ gb120))
          have n12_ := Aside0.mk ((by rw [hg]; exact Nat.ne_of_gt (blk_lt (bu BK103.out)) : gb120 ≠ gb103))
          have n13_ := Aside0.mk ((by rw [hg]; exact Nat.ne_of_lt (blk_lt (bu BK104.out)) : gb104 ≠ gb120))
          have n14_ := Aside0.mk ((by rw [hg]; exact Nat.ne_of_gt (blk_lt (bu BK104.out)) : gb120 ≠ gb104))
          have n15_ := Aside0.mk ((by rw [hg]; exact Nat.ne_of_lt (blk_lt (bu BK111.out)) : gb111 ≠ gb120))
          have n16_ := Aside0.mk ((by rw [hg]; exact Nat.ne_of_gt (blk_lt (bu BK111.out)) : gb120 ≠ gb111))
          have n17_ := Aside0.mk ((by rw [hg]; exact Nat.ne_of_lt (blk_lt (bu BK113.out)) : gb113 ≠ gb120))
          have n18_ := Aside0.mk ((by rw [hg]; exact Nat.ne_of_gt (blk_lt (bu BK113.out)) : gb120 ≠ gb113))
          clear HO_112002
          clear HO_112003
          clear HO119
          clear BK103
          clear BK104
          clear BK111
          clear BK113
          clear HB
          have HO_112002 := n0_
          have HO_112003 := n1_
          have HO119 := n2_
          have BK103 := n3_
          have BK104 := n4_
          have BK111 := n5_
          have BK113 := n6_
          have HB := n7_
          have BK120 := n8_
          have GW120 := n9_
          have GE120 := n10_
          have NB103_120 := n11_
          have NB120_103 := n12_
          have NB104_120 := n13_
          have NB120_104 := n14_
          have NB111_120 := n15_
          have NB120_111 := n16_
          have NB113_120 := n17_
          have NB120_113 := n18_
          clear n0_ n1_ n2_ n3_ n4_ n5_ n6_ n7_ n8_ n9_ n10_ n11_ n12_ n13_ n14_ n15_ n16_ n17_ n18_
          clear hb hbox hg
          refine hK.out _ _ ⟨(blk_cell BK113.out 0).trans rfl, (blk_cell BK113.out 1).trans rfl, (blk_cell BK113.out 2).trans rfl, (blk_cell BK113.out 3).trans rfl, (blk_cell BK113.out 4).trans rfl⟩ (fun hHeld => ?_)
          clear hK K
          refine norm_ (a' := ?_) ?_ ?_
          rotate_left
          · show Act.put _ (some 6) _ = _
            simp only [Act.put, List.setIfInBounds_toArray, List.set_cons_zero, List.set_cons_succ, i64_w, i32_w]
            rfl
          exact norm_ (by simp only [putAll, Act.put, List.setIfInBounds_toArray, List.set_cons_zero, List.set_cons_succ]) (hCont (v115, .slice Ao33 y117.length co33, gb120) _ ⟨hHeld, (ru HO119.out), (ru (R_mono HO_112002.out (fun _ hk => hk.2))), (ru (R_mono HO_112003.out (fun _ hk => ⟨hk.1.2, ⟨hk.1.1.1, ⟨hk.1.1.2, hk.2⟩⟩⟩))), (bu BK103.out), (bu BK104.out), (bu BK111.out), (bu BK113.out), (bu BK120.out), GW120.out, GE120.out, NB103_120.out, NB120_103.out, NB104_120.out, NB120_104.out, NB111_120.out, NB120_111.out, NB113_120.out, NB120_113.out, (by repeat with_reducible first | exact HB.out | apply below_alloc | apply pw_below_drewN | apply below_drew1 | refine below_set ?_ GE103.out | refine below_set ?_ GE104.out | refine below_set ?_ GE111.out | refine below_set ?_ GE113.out | refine below_set ?_ GE120.out)⟩)
        skip
        refine box_step ?hg (N := 6) ?hd (cs := #[.slice none 0 0, .slice none 0 0, .int .i64 0, .int .i64 0, .slice none 0 0]) (t := 52) ?hr ?_; (case hd => rfl); (case hg => rfl); (case hr => first | (go_simp; done) | (go_simp; rfl))
        intro gb120 hg w32 hbox hb
        have n0_ := Aside0.mk (Kd.R_below (ru HO_112002.out) hb)
        have n1_ := Aside0.mk (Kd.R_below (Kd.R_elderB (ru HO_112003.out) gb120 (Nat.le_of_eq hg.symm)) hb)
        have n2_ := Aside0.mk (Kd.R_below (ru HO116.out) hb)
        have n3_ := Aside0.mk (blk_below (bu BK103.out) hb)
        have n4_ := Aside0.mk (blk_below (bu BK104.out) hb)
        have n5_ := Aside0.mk (blk_below (bu BK111.out) hb)
        have n6_ := Aside0.mk (blk_below (bu BK113.out) hb)
        have n7_ := Aside0.mk (below_step (by repeat with_reducible first | exact HB.out | apply below_alloc | apply pw_below_drewN | apply below_drew1 | refine below_set ?_ GE103.out | refine below_set ?_ GE104.out | refine below_set ?_ GE111.out | refine below_set ?_ GE113.out) hb)
        have n8_ := Aside0.mk (hbox)
        have n9_ := Aside0.mk ((by rw [hg]; exact (below_size (by repeat with_reducible first | exact HB.out | apply below_alloc | apply pw_below_drewN | apply below_drew1 | refine below_set ?_ GE103.out | refine below_set ?_ GE104.out | refine below_set ?_ GE111.out | refine below_set ?_ GE113.out)) : w.heap.size ≤ gb120))
        have n10_ := Aside0.mk ((by rw [hg]; exact (below_size (by repeat with_reducible first | exact HB.out | apply below_alloc | apply pw_below_drewN | apply below_drew1 | refine below_set ?_ GE103.out | refine below_set ?_ GE104.out | refine below_set ?_ GE111.out | refine below_set ?_ GE113.out)) : w.heap.size ≤ gb120))
        have n11_ := Aside0.mk ((by rw [hg]; exact Nat.ne_of_lt (blk_lt (bu BK103.out)) : gb103 ≠ gb120))
        have n12_ := Aside0.mk ((by rw [hg]; exact Nat.ne_of_gt (blk_lt (bu BK103.out)) : gb120 ≠ gb103))
        have n13_ := Aside0.mk ((by rw [hg]; exact Nat.ne_of_lt (blk_lt (bu BK104.out)) : gb104 ≠ gb120))
        have n14_ := Aside0.mk ((by rw [hg]; exact Nat.ne_of_gt (blk_lt (bu BK104.out)) : gb120 ≠ gb104))
        have n15_ := Aside0.mk ((by rw [hg]; exact Nat.ne_of_lt (blk_lt (bu BK111.out)) : gb111 ≠ gb120))
        have n16_ := Aside0.mk ((by rw [hg]; exact Nat.ne_of_gt (blk_lt (bu BK111.out)) : gb120 ≠ gb111))
        have n17_ := Aside0.mk ((by rw [hg]; exact Nat.ne_of_lt (blk_lt (bu BK113.out)) : gb113 ≠ gb120))
        have n18_ := Aside0.mk ((by rw [hg]; exact Nat.ne_of_gt (blk_lt (bu BK113.out)) : gb120 ≠ gb113))
        clear HO_112002
        clear HO_112003
        clear HO116
        clear BK103
        clear BK104
        clear BK111
        clear BK113
        clear HB
        have HO_112002 := n0_
        have HO_112003 := n1_
        have HO116 := n2_
        have BK103 := n3_
        have BK104 := n4_
        have BK111 := n5_
        have BK113 := n6_
        have HB := n7_
        have BK120 := n8_
        have GW120 := n9_
        have GE120 := n10_
        have NB103_120 := n11_
        have NB120_103 := n12_
        have NB104_120 := n13_
        have NB120_104 := n14_
        have NB111_120 := n15_
        have NB120_111 := n16_
        have NB113_120 := n17_
        have NB120_113 := n18_
        clear n0_ n1_ n2_ n3_ n4_ n5_ n6_ n7_ n8_ n9_ n10_ n11_ n12_ n13_ n14_ n15_ n16_ n17_ n18_
        clear hb hbox hg
        refine hK.out _ _ ⟨(blk_cell BK113.out 0).trans rfl, (blk_cell BK113.out 1).trans rfl, (blk_cell BK113.out 2).trans rfl, (blk_cell BK113.out 3).trans rfl, (blk_cell BK113.out 4).trans rfl⟩ (fun hHeld => ?_)
        clear hK K
        refine norm_ (a' := ?_) ?_ ?_
        rotate_left
        · show Act.put _ (some 6) _ = _
          simp only [Act.put, List.setIfInBounds_toArray, List.set_cons_zero, List.set_cons_succ, i64_w, i32_w]
          rfl
        refine one_ (i := 10) (N := some 41) (bt 15 10239) rfl rfl (one_of HT_.out (by kernel_rfl)) (by decide) (fun K hK => ?_)
        refine Kd.R_append_rows_step (Kd.int .i64) (w0 := w) w.heap.size (by rfl) (.tmp 37) (.tmp 40) 22 3 (.int .i64 0) 8 rfl Try.underlying22 info3 rfl (by decide) (by omega) v115 y114 ((rd_T52 l0_3 x4_1).f2.f2) _ _ _ (fun k_ => some k_ ≠ (.slice Ao12 y108.length co12 : Value).ownBlock) (fun _ => False) rfl rfl ?aO ?aR (fun _ _ h => h) (fun _ h => h.elim) ?aF ?aB ?aS ?aL ?_
        (case aR => exact cu (C_below HR112_4.out HB.out))
        (case aB => exact (by repeat with_reducible first | exact HB.out | apply below_alloc | apply pw_below_drewN | apply below_drew1 | refine below_set ?_ GE103.out | refine below_set ?_ GE104.out | refine below_set ?_ GE111.out | refine below_set ?_ GE113.out | refine below_set ?_ GE120.out))
        (case aF => exact (fun k_ hk => Kd.fresh' (R_lt (ru HO_112002.out)) k_ hk))
        (case aO => exact (ru (R_mono HO116.out (fun _ hk => hk.2))))
        (case aS => exact (below_size (by repeat with_reducible first | exact HB.out | apply below_alloc | apply pw_below_drewN | apply below_drew1 | refine below_set ?_ GE103.out | refine below_set ?_ GE104.out | refine below_set ?_ GE111.out | refine below_set ?_ GE113.out | refine below_set ?_ GE120.out)))
        (case aL => have := LMc19.out; omega)
        intro v118 w33 ho hb hg hat
        rw [← Ny117.out] at ho
        have n0_ := Aside0.mk (Kd.R_after (ok := (fun _ => True)) (ru HO_112002.out) hg hat)
        have n1_ := Aside0.mk (Kd.R_after (ok := (fun k_ => some k_ ≠ (.slice Ao12 y108.length co12 : Value).ownBlock ∧ k_ ≠ gb113 ∧ k_ ≠ gb120)) (ru (R_mono HO_112003.out (fun _ hk => ⟨⟨hk.1.1.1, ⟨hk.1.1.2, hk.2⟩⟩, hk.1.2⟩))) hg hat)
        have n2_ := Aside0.mk (blk_grown (bu BK103.out) hg (Kd.R_ne HO116.out BK103.out (by decide)))
        have n3_ := Aside0.mk (blk_grown (bu BK104.out) hg (Kd.R_ne HO116.out BK104.out (by decide)))
        have n4_ := Aside0.mk (blk_grown (bu BK111.out) hg (Kd.R_ne HO116.out BK111.out (by decide)))
        have n5_ := Aside0.mk (blk_grown (bu BK113.out) hg (Kd.R_ne HO116.out BK113.out (by decide)))
        have n6_ := Aside0.mk (blk_grown (bu BK120.out) hg (Kd.R_ne HO116.out BK120.out (by decide)))
        have n7_ := Aside0.mk (hb)
        have n8_ := Aside0.mk (ho)
        clear HO_112002
        clear HO_112003
        clear BK103
        clear BK104
        clear BK111
        clear BK113
        clear BK120
        clear HB
        clear HO116
        have HO_112002 := n0_
        have HO_112003 := n1_
        have BK103 := n2_
        have BK104 := n3_
        have BK111 := n4_
        have BK113 := n5_
        have BK120 := n6_
        have HB := n7_
        have HO119 := n8_
        clear n0_ n1_ n2_ n3_ n4_ n5_ n6_ n7_ n8_
        clear ho hb hg hat
        obtain ⟨Ao34, co34, eo34⟩ := Kd.R_slice HO119.out
        (first | subst eo34 | (injection eo34 with f1_ f2_ f3_; have f4_ := f1_.symm; have f5_ := f3_.symm; clear f1_ f2_ f3_; subst f4_; subst f5_))
        refine hK.out _ _ ⟨(blk_cell BK113.out 0).trans rfl, (blk_cell BK113.out 1).trans rfl, (blk_cell BK113.out 2).trans rfl, (blk_cell BK113.out 3).trans rfl, (blk_cell BK113.out 4).trans rfl⟩ (fun hHeld => ?_)
        clear hK K
        refine norm_ (a' := ?_) ?_ ?_
        rotate_left
        · show Act.put _ (some 41) _ = _
          simp only [Act.put, List.setIfInBounds_toArray, List.set_cons_zero, List.set_cons_succ, i64_w, i32_w]
          rfl
        refine pu 11 42 (bt 15 12287) HT_.out ?_
        refine pu 12 43 (bt 15 16383) HT_.out ?_
        exact norm_ (by simp only [putAll, Act.put, List.setIfInBounds_toArray, List.set_cons_zero, List.set_cons_succ]) (hCont (v115, .slice Ao34 y117.length co34, gb120) _ ⟨hHeld, (ru HO119.out), (ru (R_mono HO_112002.out (fun _ hk => hk.2))), (ru (R_mono HO_112003.out (fun _ hk => ⟨hk.2, ⟨hk.1.1, ⟨hk.1.2.1, hk.1.2.2⟩⟩⟩))), (bu BK103.out), (bu BK104.out), (bu BK111.out), (bu BK113.out), (bu BK120.out), GW120.out, GE120.out, NB103_120.out, NB120_103.out, NB104_120.out, NB120_104.out, NB111_120.out, NB120_111.out, NB113_120.out, NB120_113.out, (by repeat with_reducible first | exact HB.out | apply below_alloc | apply pw_below_drewN | apply below_drew1 | refine below_set ?_ GE103.out | refine below_set ?_ GE104.out | refine below_set ?_ GE111.out | refine below_set ?_ GE113.out | refine below_set ?_ GE120.out)⟩)
      skip
      refine box_step ?hg (N := 6) ?hd (cs := #[.slice none 0 0, .slice none 0 0, .int .i64 0, .int .i64 0, .slice none 0 0]) (t := 52) ?hr ?_; (case hd => rfl); (case hg => rfl); (case hr => first | (go_simp; done) | (go_simp; rfl))
      intro gb120 hg w30 hbox hb
      have n0_ := Aside0.mk (Kd.R_below (ru HO_112002.out) hb)
      have n1_ := Aside0.mk (Kd.R_below (Kd.R_elderB (ru HO_112003.out) gb120 (Nat.le_of_eq hg.symm)) hb)
      have n2_ := Aside0.mk (blk_below (bu BK103.out) hb)
      have n3_ := Aside0.mk (blk_below (bu BK104.out) hb)
      have n4_ := Aside0.mk (blk_below (bu BK111.out) hb)
      have n5_ := Aside0.mk (blk_below (bu BK113.out) hb)
      have n6_ := Aside0.mk (below_step (by repeat with_reducible first | exact HB.out | apply below_alloc | apply pw_below_drewN | apply below_drew1 | refine below_set ?_ GE103.out | refine below_set ?_ GE104.out | refine below_set ?_ GE111.out | refine below_set ?_ GE113.out) hb)
      have n7_ := Aside0.mk (hbox)
      have n8_ := Aside0.mk ((by rw [hg]; exact (below_size (by repeat with_reducible first | exact HB.out | apply below_alloc | apply pw_below_drewN | apply below_drew1 | refine below_set ?_ GE103.out | refine below_set ?_ GE104.out | refine below_set ?_ GE111.out | refine below_set ?_ GE113.out)) : w.heap.size ≤ gb120))
      have n9_ := Aside0.mk ((by rw [hg]; exact (below_size (by repeat with_reducible first | exact HB.out | apply below_alloc | apply pw_below_drewN | apply below_drew1 | refine below_set ?_ GE103.out | refine below_set ?_ GE104.out | refine below_set ?_ GE111.out | refine below_set ?_ GE113.out)) : w.heap.size ≤ gb120))
      have n10_ := Aside0.mk ((by rw [hg]; exact Nat.ne_of_lt (blk_lt (bu BK103.out)) : gb103 ≠ gb120))
      have n11_ := Aside0.mk ((by rw [hg]; exact Nat.ne_of_gt (blk_lt (bu BK103.out)) : gb120 ≠ gb103))
      have n12_ := Aside0.mk ((by rw [hg]; exact Nat.ne_of_lt (blk_lt (bu BK104.out)) : gb104 ≠ gb120))
      have n13_ := Aside0.mk ((by rw [hg]; exact Nat.ne_of_gt (blk_lt (bu BK104.out)) : gb120 ≠ gb104))
      have n14_ := Aside0.mk ((by rw [hg]; exact Nat.ne_of_lt (blk_lt (bu BK111.out)) : gb111 ≠ gb120))
      have n15_ := Aside0.mk ((by rw [hg]; exact Nat.ne_of_gt (blk_lt (bu BK111.out)) : gb120 ≠ gb111))
      have n16_ := Aside0.mk ((by rw [hg]; exact Nat.ne_of_lt (blk_lt (bu BK113.out)) : gb113 ≠ gb120))
      have n17_ := Aside0.mk ((by rw [hg]; exact Nat.ne_of_gt (blk_lt (bu BK113.out)) : gb120 ≠ gb113))
      clear HO_112002
      clear HO_112003
      clear BK103
      clear BK104
      clear BK111
      clear BK113
      clear HB
      have HO_112002 := n0_
      have HO_112003 := n1_
      have BK103 := n2_
      have BK104 := n3_
      have BK111 := n4_
      have BK113 := n5_
      have HB := n6_
      have BK120 := n7_
      have GW120 := n8_
      have GE120 := n9_
      have NB103_120 := n10_
      have NB120_103 := n11_
      have NB104_120 := n12_
      have NB120_104 := n13_
      have NB111_120 := n14_
      have NB120_111 := n15_
      have NB113_120 := n16_
      have NB120_113 := n17_
      clear n0_ n1_ n2_ n3_ n4_ n5_ n6_ n7_ n8_ n9_ n10_ n11_ n12_ n13_ n14_ n15_ n16_ n17_
      clear hb hbox hg
      refine hK.out _ _ ⟨(blk_cell BK113.out 0).trans rfl, (blk_cell BK113.out 1).trans rfl, (blk_cell BK113.out 2).trans rfl, (blk_cell BK113.out 3).trans rfl, (blk_cell BK113.out 4).trans rfl⟩ (fun hHeld => ?_)
      clear hK K
      refine norm_ (a' := ?_) ?_ ?_
      rotate_left
      · show Act.put _ (some 6) _ = _
        simp only [Act.put, List.setIfInBounds_toArray, List.set_cons_zero, List.set_cons_succ, i64_w, i32_w]
        rfl
      refine one_ (i := 6) (N := some 37) (bt 15 9215) rfl rfl (one_of HT_.out (by kernel_rfl)) (by decide) (fun K hK => ?_)
      refine Kd.R_lit_step (Kd.int .i64) _ 3 ?hg (N := 37) ?hd (xs := ([] : List Int)) (inner := []) (ok := fun _ => True) (okp := fun _ => True) ?hr ?hp (fun _ hk => hk) trivial (Below.refl _ _) (Nat.le_refl _) (by simp) ?_; (case hd => rfl); (case hg => rfl); (case hr => first | (go_simp; done) | (go_simp; rfl)); (case hp => exact (Reps.none _ _))
      intro v115 w31 ho32 hb hg_ hnew_
      clear hg_ hnew_
      rw [← Ny114.out] at ho32
      have n0_ := Aside0.mk (R_elder' (ru HO_112002.out) (R_base ho32) hb)
      have n1_ := Aside0.mk (R_elder' (ru HO_112003.out) (R_base ho32) hb)
      have n2_ := Aside0.mk (Kd.R_lower (R_new' ho32 (R_lt (ru HO_112002.out))) (below_size (by repeat with_reducible first | exact HB.out | apply below_alloc | apply pw_below_drewN | apply below_drew1 | refine below_set ?_ GE103.out | refine below_set ?_ GE104.out | refine below_set ?_ GE111.out | refine below_set ?_ GE113.out | refine below_set ?_ GE120.out)))
      have n3_ := Aside0.mk (blk_below (bu BK103.out) hb)
      have n4_ := Aside0.mk (blk_below (bu BK104.out) hb)
      have n5_ := Aside0.mk (blk_below (bu BK111.out) hb)
      have n6_ := Aside0.mk (blk_below (bu BK113.out) hb)
      have n7_ := Aside0.mk (blk_below (bu BK120.out) hb)
      have n8_ := Aside0.mk (below_step (by repeat with_reducible first | exact HB.out | apply below_alloc | apply pw_below_drewN | apply below_drew1 | refine below_set ?_ GE103.out | refine below_set ?_ GE104.out | refine below_set ?_ GE111.out | refine below_set ?_ GE113.out | refine below_set ?_ GE120.out) hb)
      clear HO_112002
      clear HO_112003
      clear BK103
      clear BK104
      clear BK111
      clear BK113
      clear BK120
      clear HB
      have HO_112002 := n0_
      have HO_112003 := n1_
      have HO116 := n2_
      have BK103 := n3_
      have BK104 := n4_
      have BK111 := n5_
      have BK113 := n6_
      have BK120 := n7_
      have HB := n8_
      clear n0_ n1_ n2_ n3_ n4_ n5_ n6_ n7_ n8_
      clear hb ho32
      refine hK.out _ _ ⟨(blk_cell BK113.out 0).trans rfl, (blk_cell BK113.out 1).trans rfl, (blk_cell BK113.out 2).trans rfl, (blk_cell BK113.out 3).trans rfl, (blk_cell BK113.out 4).trans rfl⟩ (fun hHeld => ?_)
      clear hK K
      refine norm_ (a' := ?_) ?_ ?_
      rotate_left
      · show Act.put _ (some 37) _ = _
        simp only [Act.put, List.setIfInBounds_toArray, List.set_cons_zero, List.set_cons_succ, i64_w, i32_w]
        rfl
      refine one_ (i := 10) (N := some 41) (bt 15 10239) rfl rfl (one_of HT_.out (by kernel_rfl)) (by decide) (fun K hK => ?_)
      refine Kd.R_append_rows_step (Kd.int .i64) (w0 := w) w.heap.size (by rfl) (.tmp 37) (.tmp 40) 22 3 (.int .i64 0) 8 rfl Try.underlying22 info3 rfl (by decide) (by omega) v115 y114 ((rd_T52 l0_3 x4_1).f2.f2) _ _ _ (fun k_ => some k_ ≠ (.slice Ao12 y108.length co12 : Value).ownBlock) (fun _ => False) rfl rfl ?aO ?aR (fun _ _ h => h) (fun _ h => h.elim) ?aF ?aB ?aS ?aL ?_
      (case aR => exact cu (C_below HR112_4.out HB.out))
      (case aB => exact (by repeat with_reducible first | exact HB.out | apply below_alloc | apply pw_below_drewN | apply below_drew1 | refine below_set ?_ GE103.out | refine below_set ?_ GE104.out | refine below_set ?_ GE111.out | refine below_set ?_ GE113.out | refine below_set ?_ GE120.out))
      (case aF => exact (fun k_ hk => Kd.fresh' (R_lt (ru HO_112002.out)) k_ hk))
      (case aO => exact (ru (R_mono HO116.out (fun _ hk => hk.2))))
      (case aS => exact (below_size (by repeat with_reducible first | exact HB.out | apply below_alloc | apply pw_below_drewN | apply below_drew1 | refine below_set ?_ GE103.out | refine below_set ?_ GE104.out | refine below_set ?_ GE111.out | refine below_set ?_ GE113.out | refine below_set ?_ GE120.out)))
      (case aL => have := LMc19.out; omega)
      intro v118 w33 ho hb hg hat
      rw [← Ny117.out] at ho
      have n0_ := Aside0.mk (Kd.R_after (ok := (fun _ => True)) (ru HO_112002.out) hg hat)
      have n1_ := Aside0.mk (Kd.R_after (ok := (fun k_ => some k_ ≠ (.slice Ao12 y108.length co12 : Value).ownBlock ∧ k_ ≠ gb113 ∧ k_ ≠ gb120)) (ru (R_mono HO_112003.out (fun _ hk => ⟨⟨hk.1.1.1, ⟨hk.1.1.2, hk.1.2⟩⟩, hk.2⟩))) hg hat)
      have n2_ := Aside0.mk (blk_grown (bu BK103.out) hg (Kd.R_ne HO116.out BK103.out (by decide)))
      have n3_ := Aside0.mk (blk_grown (bu BK104.out) hg (Kd.R_ne HO116.out BK104.out (by decide)))
      have n4_ := Aside0.mk (blk_grown (bu BK111.out) hg (Kd.R_ne HO116.out BK111.out (by decide)))
      have n5_ := Aside0.mk (blk_grown (bu BK113.out) hg (Kd.R_ne HO116.out BK113.out (by decide)))
      have n6_ := Aside0.mk (blk_grown (bu BK120.out) hg (Kd.R_ne HO116.out BK120.out (by decide)))
      have n7_ := Aside0.mk (hb)
      have n8_ := Aside0.mk (ho)
      clear HO_112002
      clear HO_112003
      clear BK103
      clear BK104
      clear BK111
      clear BK113
      clear BK120
      clear HB
      clear HO116
      have HO_112002 := n0_
      have HO_112003 := n1_
      have BK103 := n2_
      have BK104 := n3_
      have BK111 := n4_
      have BK113 := n5_
      have BK120 := n6_
      have HB := n7_
      have HO119 := n8_
      clear n0_ n1_ n2_ n3_ n4_ n5_ n6_ n7_ n8_
      clear ho hb hg hat
      obtain ⟨Ao34, co34, eo34⟩ := Kd.R_slice HO119.out
      (first | subst eo34 | (injection eo34 with f1_ f2_ f3_; have f4_ := f1_.symm; have f5_ := f3_.symm; clear f1_ f2_ f3_; subst f4_; subst f5_))
      refine hK.out _ _ ⟨(blk_cell BK113.out 0).trans rfl, (blk_cell BK113.out 1).trans rfl, (blk_cell BK113.out 2).trans rfl, (blk_cell BK113.out 3).trans rfl, (blk_cell BK113.out 4).trans rfl⟩ (fun hHeld => ?_)
      clear hK K
      refine norm_ (a' := ?_) ?_ ?_
      rotate_left
      · show Act.put _ (some 41) _ = _
        simp only [Act.put, List.setIfInBounds_toArray, List.set_cons_zero, List.set_cons_succ, i64_w, i32_w]
        rfl
      refine pu 11 42 (bt 15 12287) HT_.out ?_
      refine pu 12 43 (bt 15 16383) HT_.out ?_
      exact norm_ (by simp only [putAll, Act.put, List.setIfInBounds_toArray, List.set_cons_zero, List.set_cons_succ]) (hCont (v115, .slice Ao34 y117.length co34, gb120) _ ⟨hHeld, (ru HO119.out), (ru (R_mono HO_112002.out (fun _ hk => hk.2))), (ru (R_mono HO_112003.out (fun _ hk => ⟨hk.2, ⟨hk.1.1, ⟨hk.1.2.1, hk.1.2.2⟩⟩⟩))), (bu BK103.out), (bu BK104.out), (bu BK111.out), (bu BK113.out), (bu BK120.out), GW120.out, GE120.out, NB103_120.out, NB120_103.out, NB104_120.out, NB120_104.out, NB111_120.out, NB120_111.out, NB113_120.out, NB120_113.out, (by repeat with_reducible first | exact HB.out | apply below_alloc | apply pw_below_drewN | apply below_drew1 | refine below_set ?_ GE103.out | refine below_set ?_ GE104.out | refine below_set ?_ GE111.out | refine below_set ?_ GE113.out | refine below_set ?_ GE120.out)⟩)
    rintro ⟨v115, v118, gb120⟩ w35 ⟨hS_, h0_, h1_, h2_, h3_, h4_, h5_, h6_, h7_, h8_, h9_, h10_, h11_, h12_, h13_, h14_, h15_, h16_, h17_, h18_⟩
    have n0_ : Aside0 (Kd.R (Kd.int .i64) 3 w35 w.heap.size (fun k_ => some k_ ≠ (.slice Ao12 y108.length co12 : Value).ownBlock) v118 y117) := ⟨h0_⟩
    have n1_ : Aside0 (Kd.R (Kd.int .i64) 3 w35 w.heap.size (fun k_ => some k_ ≠ (v118 : Value).ownBlock) (.slice Ao12 y108.length co12) y108) := ⟨h1_⟩
    have n2_ : Aside0 (Kd.R k52 52 w35 w.heap.size (fun k_ => some k_ ≠ (v118 : Value).ownBlock ∧ some k_ ≠ (.slice Ao12 y108.length co12 : Value).ownBlock ∧ k_ ≠ gb113 ∧ k_ ≠ gb120) u112003 x112003_1) := ⟨h2_⟩
    have n3_ : Aside0 (w35.heap[gb103]? = some (.cells #[.int .i64 a0_0, .int .i64 a0_1, .slice A0_2 l0_2.length c0_2, .slice (some ad112) l0_3.length c0_3] 25 (0, 0))) := ⟨h3_⟩
    have n4_ : Aside0 (w35.heap[gb104]? = some (.cells #[.int .i64 0, .int .i64 0, .slice none 0 0, .slice none 0 0] 25 (0, 0))) := ⟨h4_⟩
    have n5_ : Aside0 (w35.heap[gb111]? = some (.cells #[.int .i64 a0_0, .int .i64 a0_1, .slice Ao12 y108.length co12, u112003] 25 (0, 0))) := ⟨h5_⟩
    have n6_ : Aside0 (w35.heap[gb113]? = some (.cells #[.slice A112_0 ((rd_T52 l0_3 x4_1).f0).length c112_0, .slice A112_1 ((rd_T52 l0_3 x4_1).f1).length c112_1, .int .i64 ((rd_T52 l0_3 x4_1).f2.f0), .int .i64 ((rd_T52 l0_3 x4_1).f2.f1), .slice A112_4 ((rd_T52 l0_3 x4_1).f2.f2).length c112_4] 52 (0, 0))) := ⟨h6_⟩
    have n7_ : Aside0 (w35.heap[gb120]? = some (.cells #[.slice none 0 0, .slice none 0 0, .int .i64 0, .int .i64 0, .slice none 0 0] 52 (0, 0))) := ⟨h7_⟩
    have n8_ : Aside0 (w.heap.size ≤ gb120) := ⟨h8_⟩
    have n9_ : Aside0 (w.heap.size ≤ gb120) := ⟨h9_⟩
    have n10_ : Aside0 (gb103 ≠ gb120) := ⟨h10_⟩
    have n11_ : Aside0 (gb120 ≠ gb103) := ⟨h11_⟩
    have n12_ : Aside0 (gb104 ≠ gb120) := ⟨h12_⟩
    have n13_ : Aside0 (gb120 ≠ gb104) := ⟨h13_⟩
    have n14_ : Aside0 (gb111 ≠ gb120) := ⟨h14_⟩
    have n15_ : Aside0 (gb120 ≠ gb111) := ⟨h15_⟩
    have n16_ : Aside0 (gb113 ≠ gb120) := ⟨h16_⟩
    have n17_ : Aside0 (gb120 ≠ gb113) := ⟨h17_⟩
    have n18_ : Aside0 (Below w.heap.size w w35) := ⟨h18_⟩
    clear HO_112002
    clear HO_112003
    clear BK103
    clear BK104
    clear BK111
    clear BK113
    clear HB
    clear h0_ h1_ h2_ h3_ h4_ h5_ h6_ h7_ h8_ h9_ h10_ h11_ h12_ h13_ h14_ h15_ h16_ h17_ h18_
    have HO119 := n0_
    have HO_112002 := n1_
    have HO_112003 := n2_
    have BK103 := n3_
    have BK104 := n4_
    have BK111 := n5_
    have BK113 := n6_
    have BK120 := n7_
    have GW120 := n8_
    have GE120 := n9_
    have NB103_120 := n10_
    have NB120_103 := n11_
    have NB104_120 := n12_
    have NB120_104 := n13_
    have NB111_120 := n14_
    have NB120_111 := n15_
    have NB113_120 := n16_
    have NB120_113 := n17_
    have HB := n18_
    clear n0_ n1_ n2_ n3_ n4_ n5_ n6_ n7_ n8_ n9_ n10_ n11_ n12_ n13_ n14_ n15_ n16_ n17_ n18_
    have hHeld : w35.cell? ⟨gb113, 0, none⟩ = some (.slice A112_0 ((rd_T52 l0_3 x4_1).f0).length c112_0) ∧ w35.cell? ⟨gb113, 1, none⟩ = some (.slice A112_1 ((rd_T52 l0_3 x4_1).f1).length c112_1) ∧ w35.cell? ⟨gb113, 2, none⟩ = some (.int .i64 ((rd_T52 l0_3 x4_1).f2.f0)) ∧ w35.cell? ⟨gb113, 3, none⟩ = some (.int .i64 ((rd_T52 l0_3 x4_1).f2.f1)) ∧ w35.cell? ⟨gb113, 4, none⟩ = some (.slice A112_4 ((rd_T52 l0_3 x4_1).f2.f2).length c112_4) := hS_
    obtain ⟨Ao36, co36, eo36⟩ := Kd.R_slice HO119.out
    (first | subst eo36 | (injection eo36 with f1_ f2_ f3_; have f4_ := f1_.symm; have f5_ := f3_.symm; clear f1_ f2_ f3_; subst f4_; subst f5_))
    refine norm_ (a' := ?_) ?_ ?_
    rotate_left
    · simp only [putAll, Act.put, List.setIfInBounds_toArray, List.set_cons_zero, List.set_cons_succ]
      rfl
    refine one_ (i := 14) (N := none) (bt 15 32767) rfl rfl (one_of HT_.out (by kernel_rfl)) (by decide) (fun K hK => ?_)
    have hs37 : w35.cell? ⟨gb120, 0, none⟩ = some (.slice none 0 0) := (blk_cell BK120.out 0).trans rfl
    have hfs37 := blk_frozen BK120.out 0
    have hns37_0 := NB103_120.out
    have hns37_1 := NB104_120.out
    have hns37_2 := NB111_120.out
    have hns37_3 := NB113_120.out
    have hms37_0 := NB120_103.out
    have hms37_1 := NB120_104.out
    have hms37_2 := NB120_111.out
    have hms37_3 := NB120_113.out
    have hs38 : w35.cell? ⟨gb120, 1, none⟩ = some (.slice none 0 0) := (blk_cell BK120.out 1).trans rfl
    have hfs38 := blk_frozen BK120.out 1
    have hns38_0 := NB103_120.out
    have hns38_1 := NB104_120.out
    have hns38_2 := NB111_120.out
    have hns38_3 := NB113_120.out
    have hms38_0 := NB120_103.out
    have hms38_1 := NB120_104.out
    have hms38_2 := NB120_111.out
    have hms38_3 := NB120_113.out
    have hs39 : w35.cell? ⟨gb120, 2, none⟩ = some (.int .i64 0) := (blk_cell BK120.out 2).trans rfl
    have hfs39 := blk_frozen BK120.out 2
    have hns39_0 := NB103_120.out
    have hns39_1 := NB104_120.out
    have hns39_2 := NB111_120.out
    have hns39_3 := NB113_120.out
    have hms39_0 := NB120_103.out
    have hms39_1 := NB120_104.out
    have hms39_2 := NB120_111.out
    have hms39_3 := NB120_113.out
    have hs40 : w35.cell? ⟨gb120, 3, none⟩ = some (.int .i64 0) := (blk_cell BK120.out 3).trans rfl
    have hfs40 := blk_frozen BK120.out 3
    have hns40_0 := NB103_120.out
    have hns40_1 := NB104_120.out
    have hns40_2 := NB111_120.out
    have hns40_3 := NB113_120.out
    have hms40_0 := NB120_103.out
    have hms40_1 := NB120_104.out
    have hms40_2 := NB120_111.out
    have hms40_3 := NB120_113.out
    have hs41 : w35.cell? ⟨gb120, 4, none⟩ = some (.slice none 0 0) := (blk_cell BK120.out 4).trans rfl
    have hfs41 := blk_frozen BK120.out 4
    have hns41_0 := NB103_120.out
    have hns41_1 := NB104_120.out
    have hns41_2 := NB111_120.out
    have hns41_3 := NB113_120.out
    have hms41_0 := NB120_103.out
    have hms41_1 := NB120_104.out
    have hms41_2 := NB120_111.out
    have hms41_3 := NB120_113.out
    refine skip_ (w1 := ?_) (by rfl) rfl ?_ ?_
    rotate_left
    · go_simp
      rfl
    refine hK.out _ _ ⟨((cell_far (p := ⟨gb120, _, none⟩) NB113_120.out _).trans (((cell_far (p := ⟨gb120, _, none⟩) NB113_120.out _).trans (((cell_far (p := ⟨gb120, _, none⟩) NB113_120.out _).trans (((cell_far (p := ⟨gb120, _, none⟩) NB113_120.out _).trans (((cell_far (p := ⟨gb120, _, none⟩) NB113_120.out _).trans (hHeld.1)))))))))), ((cell_far (p := ⟨gb120, _, none⟩) NB113_120.out _).trans (((cell_far (p := ⟨gb120, _, none⟩) NB113_120.out _).trans (((cell_far (p := ⟨gb120, _, none⟩) NB113_120.out _).trans (((cell_far (p := ⟨gb120, _, none⟩) NB113_120.out _).trans (((cell_far (p := ⟨gb120, _, none⟩) NB113_120.out _).trans (hHeld.2.1)))))))))), ((cell_far (p := ⟨gb120, _, none⟩) NB113_120.out _).trans (((cell_far (p := ⟨gb120, _, none⟩) NB113_120.out _).trans (((cell_far (p := ⟨gb120, _, none⟩) NB113_120.out _).trans (((cell_far (p := ⟨gb120, _, none⟩) NB113_120.out _).trans (((cell_far (p := ⟨gb120, _, none⟩) NB113_120.out _).trans (hHeld.2.2.1)))))))))), ((cell_far (p := ⟨gb120, _, none⟩) NB113_120.out _).trans (((cell_far (p := ⟨gb120, _, none⟩) NB113_120.out _).trans (((cell_far (p := ⟨gb120, _, none⟩) NB113_120.out _).trans (((cell_far (p := ⟨gb120, _, none⟩) NB113_120.out _).trans (((cell_far (p := ⟨gb120, _, none⟩) NB113_120.out _).trans (hHeld.2.2.2.1)))))))))), ((cell_far (p := ⟨gb120, _, none⟩) NB113_120.out _).trans (((cell_far (p := ⟨gb120, _, none⟩) NB113_120.out _).trans (((cell_far (p := ⟨gb120, _, none⟩) NB113_120.out _).trans (((cell_far (p := ⟨gb120, _, none⟩) NB113_120.out _).trans (((cell_far (p := ⟨gb120, _, none⟩) NB113_120.out _).trans (hHeld.2.2.2.2))))))))))⟩ (fun hHeld => ?_)
    clear hK K
    refine done_ (done_of HT_.out (by kernel_rfl)) ?_
    try go_wp2
    go_loopg [7] k1 (fun kq v7 w' => ∃ (x7_2 : Int) (x121000_2 : List (S62)) (u121000 : Value), v7 = .int .i64 x7_2 ∧ Aside0 (fettleref02_CopyFunc.l1 kq x4_1 x7_2 a0_0 a0_1 l0_2 l0_3 a0_0 a0_1 y108 x112003_1 ((rd_T52 l0_3 x4_1).f0) ((rd_T52 l0_3 x4_1).f1) ((rd_T52 l0_3 x4_1).f2.f0) ((rd_T52 l0_3 x4_1).f2.f1) ((rd_T52 l0_3 x4_1).f2.f2) x121000_2 ((rd_T52 l0_3 x4_1).f2.f0) ((rd_T52 l0_3 x4_1).f2.f1) y117 = some (r1, r2, r3, r4)) ∧ Aside0 (kq ≤ k1) ∧ Aside0 (Kd.R (Kd.int .i64) 3 w' w.heap.size (fun k_ => some k_ ≠ ((.slice Ao36 y117.length co36) : Value).ownBlock) (.slice Ao12 y108.length co12) y108) ∧ Aside0 (Kd.R k52 52 w' w.heap.size (fun k_ => some k_ ≠ ((.slice Ao12 y108.length co12) : Value).ownBlock ∧ some k_ ≠ (u121000 : Value).ownBlock ∧ some k_ ≠ ((.slice Ao36 y117.length co36) : Value).ownBlock ∧ k_ ≠ gb113 ∧ k_ ≠ gb120) u112003 x112003_1) ∧ Aside0 (Kd.S k62 62 w' w.heap.size (fun k_ => some k_ ≠ ((.slice Ao12 y108.length co12) : Value).ownBlock ∧ some k_ ≠ ((.slice Ao36 y117.length co36) : Value).ownBlock) u121000 x121000_2) ∧ Aside0 (Kd.R (Kd.int .i64) 3 w' w.heap.size (fun k_ => some k_ ≠ ((.slice Ao12 y108.length co12) : Value).ownBlock) (.slice Ao36 y117.length co36) y117) ∧ Aside0 (w'.heap[gb103]? = some (.cells #[.int .i64 a0_0, .int .i64 a0_1, (.slice A0_2 l0_2.length c0_2), (.slice (some ad112) l0_3.length c0_3)] 25 (0, 0))) ∧ Aside0 (w'.heap[gb104]? = some (.cells #[.int .i64 0, .int .i64 0, (.slice none 0 0), (.slice none 0 0)] 25 (0, 0))) ∧ Aside0 (w'.heap[gb111]? = some (.cells #[.int .i64 a0_0, .int .i64 a0_1, (.slice Ao12 y108.length co12), u112003] 25 (0, 0))) ∧ Aside0 (w'.heap[gb113]? = some (.cells #[(.slice A112_0 ((rd_T52 l0_3 x4_1).f0).length c112_0), (.slice A112_1 ((rd_T52 l0_3 x4_1).f1).length c112_1), .int .i64 ((rd_T52 l0_3 x4_1).f2.f0), .int .i64 ((rd_T52 l0_3 x4_1).f2.f1), (.slice A112_4 ((rd_T52 l0_3 x4_1).f2.f2).length c112_4)] 52 (0, 0))) ∧ Aside0 (w'.heap[gb120]? = some (.cells #[u121000, (.slice none 0 0), .int .i64 ((rd_T52 l0_3 x4_1).f2.f0), .int .i64 ((rd_T52 l0_3 x4_1).f2.f1), (.slice Ao36 y117.length co36)] 52 (0, 0))) ∧ Aside0 (Below w.heap.size w w'))
    case atStart => exact ⟨(0), (([] : List (S62))), (.slice none 0 0), (by first | rfl | (simp; done) | (simp [*]; done)), H', ⟨Nat.le_refl _⟩, ⟨ru (R_mono (Kd.R_far (p := ⟨gb120, 4, none⟩) (Kd.R_far (p := ⟨gb120, 3, none⟩) (Kd.R_far (p := ⟨gb120, 2, none⟩) (Kd.R_far (p := ⟨gb120, 1, none⟩) (Kd.R_far (p := ⟨gb120, 0, none⟩) (Kd.R_types HO_112002.out BK120.out (by decide)) (fun _ hk => hk.2) (.slice none 0 0)) (fun _ hk => hk.2) (.slice none 0 0)) (fun _ hk => hk.2) (.int .i64 ((rd_T52 l0_3 x4_1).f2.f0))) (fun _ hk => hk.2) (.int .i64 ((rd_T52 l0_3 x4_1).f2.f1))) (fun _ hk => hk.2) (.slice Ao36 y117.length co36)) (fun _ hk => hk.1))⟩, ⟨ru (R_mono (Kd.R_far (p := ⟨gb120, 4, none⟩) (Kd.R_far (p := ⟨gb120, 3, none⟩) (Kd.R_far (p := ⟨gb120, 2, none⟩) (Kd.R_far (p := ⟨gb120, 1, none⟩) (Kd.R_far (p := ⟨gb120, 0, none⟩) (R_mono HO_112003.out (fun k_ hk => (⟨hk, hk.2.2.2⟩ : _ ∧ k_ ≠ gb120))) (fun _ hk => hk.2) (.slice none 0 0)) (fun _ hk => hk.2) (.slice none 0 0)) (fun _ hk => hk.2) (.int .i64 ((rd_T52 l0_3 x4_1).f2.f0))) (fun _ hk => hk.2) (.int .i64 ((rd_T52 l0_3 x4_1).f2.f1))) (fun _ hk => hk.2) (.slice Ao36 y117.length co36)) (fun _ hk => ⟨hk.1.2.1, ⟨(by simp [Value.ownBlock]), ⟨hk.1.1, ⟨hk.1.2.2.1, hk.1.2.2.2⟩⟩⟩⟩))⟩, ⟨by first | exact Kd.S_nil _ _ _ _ _ | exact Kd.N_nil _ _ _ _ _ | exact Kd.V_nil _ _ _ _ _ | exact Kd.Q_nil _ _ _ _ _ | exact Kd.R_nil _ _ _ _ _⟩, ⟨ru (R_mono (Kd.R_far (p := ⟨gb120, 4, none⟩) (Kd.R_far (p := ⟨gb120, 3, none⟩) (Kd.R_far (p := ⟨gb120, 2, none⟩) (Kd.R_far (p := ⟨gb120, 1, none⟩) (Kd.R_far (p := ⟨gb120, 0, none⟩) (Kd.R_types HO119.out BK120.out (by decide)) (fun _ hk => hk.2) (.slice none 0 0)) (fun _ hk => hk.2) (.slice none 0 0)) (fun _ hk => hk.2) (.int .i64 ((rd_T52 l0_3 x4_1).f2.f0))) (fun _ hk => hk.2) (.int .i64 ((rd_T52 l0_3 x4_1).f2.f1))) (fun _ hk => hk.2) (.slice Ao36 y117.length co36)) (fun _ hk => hk.1))⟩, ⟨by (with_reducible repeat (first | refine blk_drewN ?_ _ | refine blk_drew ?_ | refine blk_alloc ?_ _)); refine blk_far ?_ NB103_120.out _; (with_reducible repeat (first | refine blk_drewN ?_ _ | refine blk_drew ?_ | refine blk_alloc ?_ _)); refine blk_far ?_ NB103_120.out _; (with_reducible repeat (first | refine blk_drewN ?_ _ | refine blk_drew ?_ | refine blk_alloc ?_ _)); refine blk_far ?_ NB103_120.out _; (with_reducible repeat (first | refine blk_drewN ?_ _ | refine blk_drew ?_ | refine blk_alloc ?_ _)); refine blk_far ?_ NB103_120.out _; (with_reducible repeat (first | refine blk_drewN ?_ _ | refine blk_drew ?_ | refine blk_alloc ?_ _)); refine blk_far ?_ NB103_120.out _; (with_reducible repeat (first | refine blk_drewN ?_ _ | refine blk_drew ?_ | refine blk_alloc ?_ _)); exact BK103.out⟩, ⟨by (with_reducible repeat (first | refine blk_drewN ?_ _ | refine blk_drew ?_ | refine blk_alloc ?_ _)); refine blk_far ?_ NB104_120.out _; (with_reducible repeat (first | refine blk_drewN ?_ _ | refine blk_drew ?_ | refine blk_alloc ?_ _)); refine blk_far ?_ NB104_120.out _; (with_reducible repeat (first | refine blk_drewN ?_ _ | refine blk_drew ?_ | refine blk_alloc ?_ _)); refine blk_far ?_ NB104_120.out _; (with_reducible repeat (first | refine blk_drewN ?_ _ | refine blk_drew ?_ | refine blk_alloc ?_ _)); refine blk_far ?_ NB104_120.out _; (with_reducible repeat (first | refine blk_drewN ?_ _ | refine blk_drew ?_ | refine blk_alloc ?_ _)); refine blk_far ?_ NB104_120.out _; (with_reducible repeat (first | refine blk_drewN ?_ _ | refine blk_drew ?_ | refine blk_alloc ?_ _)); exact BK104.out⟩, ⟨by (with_reducible repeat (first | refine blk_drewN ?_ _ | refine blk_drew ?_ | refine blk_alloc ?_ _)); refine blk_far ?_ NB111_120.out _; (with_reducible repeat (first | refine blk_drewN ?_ _ | refine blk_drew ?_ | refine blk_alloc ?_ _)); refine blk_far ?_ NB111_120.out _; (with_reducible repeat (first | refine blk_drewN ?_ _ | refine blk_drew ?_ | refine blk_alloc ?_ _)); refine blk_far ?_ NB111_120.out _; (with_reducible repeat (first | refine blk_drewN ?_ _ | refine blk_drew ?_ | refine blk_alloc ?_ _)); refine blk_far ?_ NB111_120.out _; (with_reducible repeat (first | refine blk_drewN ?_ _ | refine blk_drew ?_ | refine blk_alloc ?_ _)); refine blk_far ?_ NB111_120.out _; (with_reducible repeat (first | refine blk_drewN ?_ _ | refine blk_drew ?_ | refine blk_alloc ?_ _)); exact BK111.out⟩, ⟨by (with_reducible repeat (first | refine blk_drewN ?_ _ | refine blk_drew ?_ | refine blk_alloc ?_ _)); refine blk_far ?_ NB113_120.out _; (with_reducible repeat (first | refine blk_drewN ?_ _ | refine blk_drew ?_ | refine blk_alloc ?_ _)); refine blk_far ?_ NB113_120.out _; (with_reducible repeat (first | refine blk_drewN ?_ _ | refine blk_drew ?_ | refine blk_alloc ?_ _)); refine blk_far ?_ NB113_120.out _; (with_reducible repeat (first | refine blk_drewN ?_ _ | refine blk_drew ?_ | refine blk_alloc ?_ _)); refine blk_far ?_ NB113_120.out _; (with_reducible repeat (first | refine blk_drewN ?_ _ | refine blk_drew ?_ | refine blk_alloc ?_ _)); refine blk_far ?_ NB113_120.out _; (with_reducible repeat (first | refine blk_drewN ?_ _ | refine blk_drew ?_ | refine blk_alloc ?_ _)); exact BK113.out⟩, ⟨by (with_reducible repeat (first | refine blk_drewN ?_ _ | refine blk_drew ?_ | refine blk_alloc ?_ _)); refine blk_put (cs := #[.slice none 0 0, .slice none 0 0, .int .i64 ((rd_T52 l0_3 x4_1).f2.f0), .int .i64 ((rd_T52 l0_3 x4_1).f2.f1), .slice none 0 0]) ?_ 4 _ rfl; (with_reducible repeat (first | refine blk_drewN ?_ _ | refine blk_drew ?_ | refine blk_alloc ?_ _)); refine blk_put (cs := #[.slice none 0 0, .slice none 0 0, .int .i64 ((rd_T52 l0_3 x4_1).f2.f0), .int .i64 0, .slice none 0 0]) ?_ 3 _ rfl; (with_reducible repeat (first | refine blk_drewN ?_ _ | refine blk_drew ?_ | refine blk_alloc ?_ _)); refine blk_put (cs := #[.slice none 0 0, .slice none 0 0, .int .i64 0, .int .i64 0, .slice none 0 0]) ?_ 2 _ rfl; (with_reducible repeat (first | refine blk_drewN ?_ _ | refine blk_drew ?_ | refine blk_alloc ?_ _)); refine blk_put (cs := #[.slice none 0 0, .slice none 0 0, .int .i64 0, .int .i64 0, .slice none 0 0]) ?_ 1 _ rfl; (with_reducible repeat (first | refine blk_drewN ?_ _ | refine blk_drew ?_ | refine blk_alloc ?_ _)); refine blk_put (cs := #[.slice none 0 0, .slice none 0 0, .int .i64 0, .int .i64 0, .slice none 0 0]) ?_ 0 _ rfl; (with_reducible repeat (first | refine blk_drewN ?_ _ | refine blk_drew ?_ | refine blk_alloc ?_ _)); exact BK120.out⟩, ⟨by repeat (first | (with_reducible first | exact HB.out | apply below_alloc | apply pw_below_drewN | apply below_drew1 | refine below_set ?_ GE103.out | refine below_set ?_ GE104.out | refine below_set ?_ GE111.out | refine below_set ?_ GE113.out | refine below_set ?_ GE120.out) | exact HB.out)⟩⟩
    clear H'
    try clear c1
    try clear p2
    try clear c11
    try clear c19
    obtain ⟨x7_2, x121000_2, u121000, rfl, HA, HK2, HO_112002, HO_112003, HO_121000, HO_121004, BK103, BK104, BK111, BK113, BK120, HB⟩ := hrel
    rcases gk with _ | k2
    · exact absurd HA.out (by simp [fettleref02_CopyFunc.l1])
    have H := HA.out
    clear HA
    simp only [fettleref02_CopyFunc.l1] at H
    by_cases c42 : x7_2 < (((rd_T52 l0_3 x4_1).f0).length : Int)
    · rw [if_pos c42] at H
      have c42b0 : decide (x7_2 < (((rd_T52 l0_3 x4_1).f0).length : Int)) = true := decide_eq_true c42
      clear c42
      by_cases c43 : 0 ≤ x7_2
      rotate_left
      · rw [if_neg c43] at H
        exact absurd H (by simp)
      rw [if_pos c43] at H
      have c43b0 : decide (0 ≤ x7_2) = true := decide_eq_true c43
      clear c43
      obtain ⟨y122, hy122⟩ : ∃ y_ : List Int, y_ = (([] : List Int)) := ⟨_, rfl⟩
      replace H : (if y122.length + ((rd_T62 ((rd_T52 l0_3 x4_1).f0) x7_2).f1).length < 17592186044416 then (if x121000_2.length < 4398046511104 then (fettleref02_CopyFunc.l1 k2 x4_1 (wrap64 (x7_2 + 1)) a0_0 a0_1 l0_2 l0_3 a0_0 a0_1 y108 x112003_1 ((rd_T52 l0_3 x4_1).f0) ((rd_T52 l0_3 x4_1).f1) ((rd_T52 l0_3 x4_1).f2.f0) ((rd_T52 l0_3 x4_1).f2.f1) ((rd_T52 l0_3 x4_1).f2.f2) (x121000_2 ++ [(⟨(rd_T62 ((rd_T52 l0_3 x4_1).f0) x7_2).f0, (y122 ++ ((rd_T62 ((rd_T52 l0_3 x4_1).f0) x7_2).f1))⟩ : S62)]) ((rd_T52 l0_3 x4_1).f2.f0) ((rd_T52 l0_3 x4_1).f2.f1) y117) else (none)) else (none)) = some (r1, r2, r3, r4) := by first | (rw [hy122]; with_reducible exact H) | (have H2_ := (Option.bind_some _ _).symm.trans H; rw [hy122]; with_reducible exact H2_) | exact H
      have Ny122 := Aside0.mk hy122
      clear hy122
      by_cases c44 : y122.length + ((rd_T62 ((rd_T52 l0_3 x4_1).f0) x7_2).f1).length < 17592186044416
      rotate_left
      · rw [if_neg c44] at H
        exact absurd H (by simp)
      rw [if_pos c44] at H
      have LMc44 := Aside0.mk c44
      clear c44
      obtain ⟨y126, hy126⟩ : ∃ y_ : List Int, y_ = (y122 ++ ((rd_T62 ((rd_T52 l0_3 x4_1).f0) x7_2).f1)) := ⟨_, rfl⟩
      replace H : (if x121000_2.length < 4398046511104 then (fettleref02_CopyFunc.l1 k2 x4_1 (wrap64 (x7_2 + 1)) a0_0 a0_1 l0_2 l0_3 a0_0 a0_1 y108 x112003_1 ((rd_T52 l0_3 x4_1).f0) ((rd_T52 l0_3 x4_1).f1) ((rd_T52 l0_3 x4_1).f2.f0) ((rd_T52 l0_3 x4_1).f2.f1) ((rd_T52 l0_3 x4_1).f2.f2) (x121000_2 ++ [(⟨(rd_T62 ((rd_T52 l0_3 x4_1).f0) x7_2).f0, y126⟩ : S62)]) ((rd_T52 l0_3 x4_1).f2.f0) ((rd_T52 l0_3 x4_1).f2.f1) y117) else (none)) = some (r1, r2, r3, r4) := by first | (rw [hy126]; with_reducible exact H) | (have H2_ := (Option.bind_some _ _).symm.trans H; rw [hy126]; with_reducible exact H2_) | exact H
      have Ny126 := Aside0.mk hy126
      clear hy126
      by_cases c45 : x121000_2.length < 4398046511104
      rotate_left
      · rw [if_neg c45] at H
        exact absurd H (by simp)
      rw [if_pos c45] at H
      have LMc45 := Aside0.mk c45
      clear c45
      obtain ⟨y129, hy129⟩ : ∃ y_ : List (S62), y_ = (x121000_2 ++ [(⟨(rd_T62 ((rd_T52 l0_3 x4_1).f0) x7_2).f0, y126⟩ : S62)]) := ⟨_, rfl⟩
      replace H : (fettleref02_CopyFunc.l1 k2 x4_1 (wrap64 (x7_2 + 1)) a0_0 a0_1 l0_2 l0_3 a0_0 a0_1 y108 x112003_1 ((rd_T52 l0_3 x4_1).f0) ((rd_T52 l0_3 x4_1).f1) ((rd_T52 l0_3 x4_1).f2.f0) ((rd_T52 l0_3 x4_1).f2.f1) ((rd_T52 l0_3 x4_1).f2.f2) y129 ((rd_T52 l0_3 x4_1).f2.f0) ((rd_T52 l0_3 x4_1).f2.f1) y117) = some (r1, r2, r3, r4) := by first | (rw [hy129]; with_reducible exact H) | (have H2_ := (Option.bind_some _ _).symm.trans H; rw [hy129]; with_reducible exact H2_) | exact H
      have Ny129 := Aside0.mk hy129
      clear hy129
      have H' := Aside0.mk H
      clear H
      have hnb46 := NB113_103.out
      have hnc46 := NB103_113.out
      have hnb47 := NB113_104.out
      have hnc47 := NB104_113.out
      have hnb48 := NB113_111.out
      have hnc48 := NB111_113.out
      have hnb49 := NB113_120.out
      have hnc49 := NB120_113.out
      have hcz50_0 : wr.cell? ⟨gb113, 0, none⟩ = some (.slice A112_0 ((rd_T52 l0_3 x4_1).f0).length c112_0) := (blk_cell BK113.out 0).trans rfl
      have hcz50_1 : wr.cell? ⟨gb113, 1, none⟩ = some (.slice A112_1 ((rd_T52 l0_3 x4_1).f1).length c112_1) := (blk_cell BK113.out 1).trans rfl
      have hcz50_2 : wr.cell? ⟨gb113, 2, none⟩ = some (.int .i64 ((rd_T52 l0_3 x4_1).f2.f0)) := (blk_cell BK113.out 2).trans rfl
      have hcz50_3 : wr.cell? ⟨gb113, 3, none⟩ = some (.int .i64 ((rd_T52 l0_3 x4_1).f2.f1)) := (blk_cell BK113.out 3).trans rfl
      have hcz50_4 : wr.cell? ⟨gb113, 4, none⟩ = some (.slice A112_4 ((rd_T52 l0_3 x4_1).f2.f2).length c112_4) := (blk_cell BK113.out 4).trans rfl
      have hfz50_0 := blk_frozen BK113.out 0
      have hfz50_1 := blk_frozen BK113.out 1
      have hfz50_2 := blk_frozen BK113.out 2
      have hfz50_3 := blk_frozen BK113.out 3
      have hfz50_4 := blk_frozen BK113.out 4
      try go_wp2
      have n0_ := Aside0.mk (R_drew HO_112002.out)
      have n1_ := Aside0.mk (R_drew HO_112003.out)
      have n2_ := Aside0.mk (S_drew HO_121000.out)
      have n3_ := Aside0.mk (R_drew HO_121004.out)
      have n4_ := Aside0.mk (blk_drew BK103.out)
      have n5_ := Aside0.mk (blk_drew BK104.out)
      have n6_ := Aside0.mk (blk_drew BK111.out)
      have n7_ := Aside0.mk (blk_drew BK113.out)
      have n8_ := Aside0.mk (blk_drew BK120.out)
      have n9_ := Aside0.mk (below_drew1 HB.out)
      clear HO_112002
      clear HO_112003
      clear HO_121000
      clear HO_121004
      clear BK103
      clear BK104
      clear BK111
      clear BK113
      clear BK120
      clear HB
      have HO_112002 := n0_
      have HO_112003 := n1_
      have HO_121000 := n2_
      have HO_121004 := n3_
      have BK103 := n4_
      have BK104 := n5_
      have BK111 := n6_
      have BK113 := n7_
      have BK120 := n8_
      have HB := n9_
      clear n0_ n1_ n2_ n3_ n4_ n5_ n6_ n7_ n8_ n9_
      have p121 : 0 ≤ (x7_2 : Int) := of_decide_eq_true (by with_reducible assumption)
      have q121 : x7_2 < (((rd_T52 l0_3 x4_1).f0).length : Int) := of_decide_eq_true (by with_reducible assumption)
      obtain ⟨ad121, A121_1, c121_1, e121, hx121_0, hx121_1, hl121_1, hi121_1⟩ := at_T62 HR112_0.out x7_2 p121 q121
      have hw121_1 := hx121_1
      have hw121_0 := hx121_0
      cases e121
      replace hx121_0 := (HB.out.cell (World.block_lt_of_cell? w _ hx121_0)).trans hx121_0
      replace hx121_1 := (HB.out.cell (World.block_lt_of_cell? w _ hx121_1)).trans hx121_1
      have HR121_1 := Aside0.mk hi121_1
      have HC121_1 := Aside0.mk hl121_1
      clear hi121_1 hl121_1
      replace p121 := eq_true p121
      replace q121 := eq_true q121
      have p125 : 0 ≤ (x7_2 : Int) := of_decide_eq_true (by with_reducible assumption)
      have q125 : x7_2 < (((rd_T52 l0_3 x4_1).f0).length : Int) := of_decide_eq_true (by with_reducible assumption)
      obtain ⟨ad125, A125_1, c125_1, e125, hx125_0, hx125_1, hl125_1, hi125_1⟩ := at_T62 HR112_0.out x7_2 p125 q125
      have hw125_1 := hx125_1
      have hw125_0 := hx125_0
      obtain rfl : ad121 = ad125 := (by injection e125)
      replace hx125_0 := (HB.out.cell (World.block_lt_of_cell? w _ hx125_0)).trans hx125_0
      replace hx125_1 := (HB.out.cell (World.block_lt_of_cell? w _ hx125_1)).trans hx125_1
      have HR125_1 := Aside0.mk hi125_1
      have HC125_1 := Aside0.mk hl125_1
      clear hi125_1 hl125_1
      replace p125 := eq_true p125
      replace q125 := eq_true q125
      have ea_ := Option.some.inj (hx121_1.symm.trans hx125_1)
      injection ea_ with ea_ en_ ec_
      subst ea_
      subst ec_
      clear en_
      refine start_ (n := 21) (S := fun w' => w'.cell? ⟨gb120, 0, none⟩ = some (u121000) ∧ w'.cell? ⟨gb120, 1, none⟩ = some (.slice none 0 0) ∧ w'.cell? ⟨gb120, 2, none⟩ = some (.int .i64 ((rd_T52 l0_3 x4_1).f2.f0)) ∧ w'.cell? ⟨gb120, 3, none⟩ = some (.int .i64 ((rd_T52 l0_3 x4_1).f2.f1)) ∧ w'.cell? ⟨gb120, 4, none⟩ = some (.slice Ao36 y117.length co36) ∧ w'.cell? ⟨gb113, 0, none⟩ = some (.slice (some ad121) ((rd_T52 l0_3 x4_1).f0).length c112_0) ∧ w'.cell? ⟨gb113, 1, none⟩ = some (.slice A112_1 ((rd_T52 l0_3 x4_1).f1).length c112_1) ∧ w'.cell? ⟨gb113, 2, none⟩ = some (.int .i64 ((rd_T52 l0_3 x4_1).f2.f0)) ∧ w'.cell? ⟨gb113, 3, none⟩ = some (.int .i64 ((rd_T52 l0_3 x4_1).f2.f1)) ∧ w'.cell? ⟨gb113, 4, none⟩ = some (.slice A112_4 ((rd_T52 l0_3 x4_1).f2.f2).length c112_4) ∧ w'.cell? (ad121.add ((x7_2).toNat * 2)) = some (.int .i64 ((rd_T62 ((rd_T52 l0_3 x4_1).f0) x7_2).f0)) ∧ w'.cell? ⟨(ad121.add ((x7_2).toNat * 2)).block, (ad121.add ((x7_2).toNat * 2)).off + 1, none⟩ = some (.slice A121_1 ((rd_T62 ((rd_T52 l0_3 x4_1).f0) x7_2).f1).length c121_1) ∧ w'.cell? (ad121.add ((x7_2).toNat * 2)) = some (.int .i64 ((rd_T62 ((rd_T52 l0_3 x4_1).f0) x7_2).f0)) ∧ w'.cell? ⟨(ad121.add ((x7_2).toNat * 2)).block, (ad121.add ((x7_2).toNat * 2)).off + 1, none⟩ = some (.slice A121_1 ((rd_T62 ((rd_T52 l0_3 x4_1).f0) x7_2).f1).length c121_1)) (ds := [20]) #[false, false, false, false, false, false, false, false, false, false, false, false, false, false, false, false, false, false, false, false, false] (by kernel_rfl) rfl rfl ⟨(blk_cell BK120.out 0).trans rfl, (blk_cell BK120.out 1).trans rfl, (blk_cell BK120.out 2).trans rfl, (blk_cell BK120.out 3).trans rfl, (blk_cell BK120.out 4).trans rfl, (blk_cell BK113.out 0).trans rfl, (blk_cell BK113.out 1).trans rfl, (blk_cell BK113.out 2).trans rfl, (blk_cell BK113.out 3).trans rfl, (blk_cell BK113.out 4).trans rfl, ((HB.out.cell (World.block_lt_of_cell? w _ hw121_0)).trans hw121_0), ((HB.out.cell (World.block_lt_of_cell? w _ hw121_1)).trans hw121_1), ((HB.out.cell (World.block_lt_of_cell? w _ hw125_0)).trans hw125_0), ((HB.out.cell (World.block_lt_of_cell? w _ hw125_1)).trans hw125_1)⟩ (fun hHeld => ?_); refine with_tabW fettleref02_CopyFunc.tab10 fettleref02_CopyFunc.bits10 (fun HT_ HW_ => ?_)
      generalize wr.drew = w51 at HO_112002 HO_112003 HO_121000 HO_121004 BK103 BK104 BK111 BK113 BK120 HB HR121_1 HR125_1 hx121_0 hx121_1 hx125_0 hx125_1 hHeld ⊢
      refine pu 0 51 (bt 21 1) HT_.out ?_
      refine pu 2 53 (bt 21 5) HT_.out ?_
      refine pu 4 55 (bt 21 21) HT_.out ?_
      refine pu 9 60 (bt 21 533) HT_.out ?_
      refine pu 11 62 (bt 21 2581) HT_.out ?_
      refine tk 1 52 (bt 21 2583) HT_.out HW_.out hHeld rfl rfl (by rintro w' ⟨s0, s1, s2, s3, s4, s5, s6, s7, s8, s9, s10, s11, s12, s13⟩; go_simp; with_reducible rfl) ?_
      refine tk 3 54 (bt 21 2591) HT_.out HW_.out hHeld rfl rfl (by rintro w' ⟨s0, s1, s2, s3, s4, s5, s6, s7, s8, s9, s10, s11, s12, s13⟩; go_simp; with_reducible rfl) ?_
      refine pu 5 56 (bt 21 2623) HT_.out ?_
      refine pu 6 57 (bt 21 2687) HT_.out ?_
      refine tk 7 58 (bt 21 2815) HT_.out HW_.out hHeld rfl rfl (by rintro w' ⟨s0, s1, s2, s3, s4, s5, s6, s7, s8, s9, s10, s11, s12, s13⟩; go_simp; with_reducible rfl) ?_
      refine tk 10 61 (bt 21 3839) HT_.out HW_.out hHeld rfl rfl (by rintro w' ⟨s0, s1, s2, s3, s4, s5, s6, s7, s8, s9, s10, s11, s12, s13⟩; go_simp; with_reducible rfl) ?_
      refine pu 12 63 (bt 21 7935) HT_.out ?_
      refine pu 13 64 (bt 21 16127) HT_.out ?_
      refine tk 14 65 (bt 21 32511) HT_.out HW_.out hHeld rfl rfl (by rintro w' ⟨s0, s1, s2, s3, s4, s5, s6, s7, s8, s9, s10, s11, s12, s13⟩; go_simp; with_reducible rfl) ?_
      refine one_ (i := 8) (N := some 59) (bt 21 32767) rfl rfl (one_of HT_.out (by kernel_rfl)) (by decide) (fun K hK => ?_)
      refine Kd.R_lit_step (Kd.int .i64) _ 3 ?hg (N := 59) ?hd (xs := ([] : List Int)) (inner := []) (ok := fun _ => True) (okp := fun _ => True) ?hr ?hp (fun _ hk => hk) trivial (Below.refl _ _) (Nat.le_refl _) (by simp) ?_; (case hd => rfl); (case hg => rfl); (case hr => first | (go_simp; done) | (go_simp; rfl)); (case hp => exact (Reps.none _ _))
      intro v123 w52 ho53 hb hg_ hnew_
      clear hg_ hnew_
      rw [← Ny122.out] at ho53
      have n0_ := Aside0.mk (R_elder' (ru HO_112002.out) (R_base ho53) hb)
      have n1_ := Aside0.mk (R_elder' (ru HO_112003.out) (R_base ho53) hb)
      have n2_ := Aside0.mk (Kd.S_elder' (su HO_121000.out) (R_base ho53) hb)
      have n3_ := Aside0.mk (R_elder' (ru HO_121004.out) (R_base ho53) hb)
      have n4_ := Aside0.mk (Kd.R_lower (R_new' (R_new' ho53 (R_lt (ru HO_112002.out))) (R_lt (ru HO_121004.out))) (below_size (by repeat with_reducible first | exact HB.out | apply below_alloc | apply pw_below_drewN | apply below_drew1 | refine below_set ?_ GE103.out | refine below_set ?_ GE104.out | refine below_set ?_ GE111.out | refine below_set ?_ GE113.out | refine below_set ?_ GE120.out)))
      have n5_ := Aside0.mk (blk_below (bu BK103.out) hb)
      have n6_ := Aside0.mk (blk_below (bu BK104.out) hb)
      have n7_ := Aside0.mk (blk_below (bu BK111.out) hb)
      have n8_ := Aside0.mk (blk_below (bu BK113.out) hb)
      have n9_ := Aside0.mk (blk_below (bu BK120.out) hb)
      have n10_ := Aside0.mk (below_step (by repeat with_reducible first | exact HB.out | apply below_alloc | apply pw_below_drewN | apply below_drew1 | refine below_set ?_ GE103.out | refine below_set ?_ GE104.out | refine below_set ?_ GE111.out | refine below_set ?_ GE113.out | refine below_set ?_ GE120.out) hb)
      clear HO_112002
      clear HO_112003
      clear HO_121000
      clear HO_121004
      clear BK103
      clear BK104
      clear BK111
      clear BK113
      clear BK120
      clear HB
      have HO_112002 := n0_
      have HO_112003 := n1_
      have HO_121000 := n2_
      have HO_121004 := n3_
      have HO124 := n4_
      have BK103 := n5_
      have BK104 := n6_
      have BK111 := n7_
      have BK113 := n8_
      have BK120 := n9_
      have HB := n10_
      clear n0_ n1_ n2_ n3_ n4_ n5_ n6_ n7_ n8_ n9_ n10_
      clear hb ho53
      refine hK.out _ _ ⟨(blk_cell BK120.out 0).trans rfl, (blk_cell BK120.out 1).trans rfl, (blk_cell BK120.out 2).trans rfl, (blk_cell BK120.out 3).trans rfl, (blk_cell BK120.out 4).trans rfl, (blk_cell BK113.out 0).trans rfl, (blk_cell BK113.out 1).trans rfl, (blk_cell BK113.out 2).trans rfl, (blk_cell BK113.out 3).trans rfl, (blk_cell BK113.out 4).trans rfl, ((HB.out.cell (World.block_lt_of_cell? w _ hw121_0)).trans hw121_0), ((HB.out.cell (World.block_lt_of_cell? w _ hw121_1)).trans hw121_1), ((HB.out.cell (World.block_lt_of_cell? w _ hw125_0)).trans hw125_0), ((HB.out.cell (World.block_lt_of_cell? w _ hw125_1)).trans hw125_1)⟩ (fun hHeld => ?_)
      clear hK K
      refine norm_ (a' := ?_) ?_ ?_
      rotate_left
      · show Act.put _ (some 59) _ = _
        simp only [Act.put, List.setIfInBounds_toArray, List.set_cons_zero, List.set_cons_succ, i64_w, i32_w]
        rfl
      refine one_ (i := 15) (N := some 66) (bt 21 65535) rfl rfl (one_of HT_.out (by kernel_rfl)) (by decide) (fun K hK => ?_)
      refine Kd.R_append_rows_step (Kd.int .i64) (w0 := w) w.heap.size (by rfl) (.tmp 59) (.tmp 65) 22 3 (.int .i64 0) 8 rfl Try.underlying22 info3 rfl (by decide) (by omega) v123 y122 ((rd_T62 ((rd_T52 l0_3 x4_1).f0) x7_2).f1) _ _ _ (fun k_ => some k_ ≠ (.slice Ao12 y108.length co12 : Value).ownBlock ∧ some k_ ≠ (.slice Ao36 y117.length co36 : Value).ownBlock) (fun _ => False) rfl rfl ?aO ?aR (fun _ _ h => h) (fun _ h => h.elim) ?aF ?aB ?aS ?aL ?_
      (case aR => exact cu (C_below HR125_1.out HB.out))
      (case aB => exact (by repeat with_reducible first | exact HB.out | apply below_alloc | apply pw_below_drewN | apply below_drew1 | refine below_set ?_ GE103.out | refine below_set ?_ GE104.out | refine below_set ?_ GE111.out | refine below_set ?_ GE113.out | refine below_set ?_ GE120.out))
      (case aF => exact (fun k_ hk => ⟨Kd.fresh' (R_lt (ru HO_112002.out)) k_ hk, Kd.fresh' (R_lt (ru HO_121004.out)) k_ hk⟩))
      (case aO => exact (ru (R_mono HO124.out (fun _ hk => ⟨hk.1.2, hk.2⟩))))
      (case aS => exact (below_size (by repeat with_reducible first | exact HB.out | apply below_alloc | apply pw_below_drewN | apply below_drew1 | refine below_set ?_ GE103.out | refine below_set ?_ GE104.out | refine below_set ?_ GE111.out | refine below_set ?_ GE113.out | refine below_set ?_ GE120.out)))
      (case aL => have := LMc44.out; omega)
      intro v127 w54 ho hb hg hat
      rw [← Ny126.out] at ho
      have n0_ := Aside0.mk (Kd.R_after (ok := (fun k_ => some k_ ≠ (.slice Ao36 y117.length co36 : Value).ownBlock)) (ru HO_112002.out) hg hat)
      have n1_ := Aside0.mk (Kd.R_after (ok := (fun k_ => some k_ ≠ (.slice Ao12 y108.length co12 : Value).ownBlock ∧ some k_ ≠ (u121000 : Value).ownBlock ∧ some k_ ≠ (.slice Ao36 y117.length co36 : Value).ownBlock ∧ k_ ≠ gb113 ∧ k_ ≠ gb120)) (ru HO_112003.out) hg hat)
      have n2_ := Aside0.mk (Kd.S_after (ok := (fun k_ => some k_ ≠ (.slice Ao12 y108.length co12 : Value).ownBlock ∧ some k_ ≠ (.slice Ao36 y117.length co36 : Value).ownBlock)) (su HO_121000.out) hg hat)
      have n3_ := Aside0.mk (Kd.R_after (ok := (fun k_ => some k_ ≠ (.slice Ao12 y108.length co12 : Value).ownBlock)) (ru HO_121004.out) hg hat)
      have n4_ := Aside0.mk (blk_grown (bu BK103.out) hg (Kd.R_ne HO124.out BK103.out (by decide)))
      have n5_ := Aside0.mk (blk_grown (bu BK104.out) hg (Kd.R_ne HO124.out BK104.out (by decide)))
      have n6_ := Aside0.mk (blk_grown (bu BK111.out) hg (Kd.R_ne HO124.out BK111.out (by decide)))
      have n7_ := Aside0.mk (blk_grown (bu BK113.out) hg (Kd.R_ne HO124.out BK113.out (by decide)))
      have n8_ := Aside0.mk (blk_grown (bu BK120.out) hg (Kd.R_ne HO124.out BK120.out (by decide)))
      have n9_ := Aside0.mk (hb)
      have n10_ := Aside0.mk (ho)
      clear HO_112002
      clear HO_112003
      clear HO_121000
      clear HO_121004
      clear BK103
      clear BK104
      clear BK111
      clear BK113
      clear BK120
      clear HB
      clear HO124
      have HO_112002 := n0_
      have HO_112003 := n1_
      have HO_121000 := n2_
      have HO_121004 := n3_
      have BK103 := n4_
      have BK104 := n5_
      have BK111 := n6_
      have BK113 := n7_
      have BK120 := n8_
      have HB := n9_
      have HO128 := n10_
      clear n0_ n1_ n2_ n3_ n4_ n5_ n6_ n7_ n8_ n9_ n10_
      clear ho hb hg hat
      obtain ⟨Ao55, co55, eo55⟩ := Kd.R_slice HO128.out
      (first | subst eo55 | (injection eo55 with f1_ f2_ f3_; have f4_ := f1_.symm; have f5_ := f3_.symm; clear f1_ f2_ f3_; subst f4_; subst f5_))
      refine hK.out _ _ ⟨(blk_cell BK120.out 0).trans rfl, (blk_cell BK120.out 1).trans rfl, (blk_cell BK120.out 2).trans rfl, (blk_cell BK120.out 3).trans rfl, (blk_cell BK120.out 4).trans rfl, (blk_cell BK113.out 0).trans rfl, (blk_cell BK113.out 1).trans rfl, (blk_cell BK113.out 2).trans rfl, (blk_cell BK113.out 3).trans rfl, (blk_cell BK113.out 4).trans rfl, ((HB.out.cell (World.block_lt_of_cell? w _ hw121_0)).trans hw121_0), ((HB.out.cell (World.block_lt_of_cell? w _ hw121_1)).trans hw121_1), ((HB.out.cell (World.block_lt_of_cell? w _ hw125_0)).trans hw125_0), ((HB.out.cell (World.block_lt_of_cell? w _ hw125_1)).trans hw125_1)⟩ (fun hHeld => ?_)
      clear hK K
      refine norm_ (a' := ?_) ?_ ?_
      rotate_left
      · show Act.put _ (some 66) _ = _
        simp only [Act.put, List.setIfInBounds_toArray, List.set_cons_zero, List.set_cons_succ, i64_w, i32_w]
        rfl
      refine pu 16 67 (bt 21 131071) HT_.out ?_
      refine one_ (i := 17) (N := some 68) (bt 21 262143) rfl rfl (one_of HT_.out (by kernel_rfl)) (by decide) (fun K hK => ?_)
      refine value_ (w1 := ?_) (v := ?_) (by rfl) rfl ?_ ?_
      rotate_left 2
      · go_simp
        constructor
        · rfl
        rfl
      refine hK.out _ _ ⟨(blk_cell (blk_alloc BK120.out _) 0).trans rfl, (blk_cell (blk_alloc BK120.out _) 1).trans rfl, (blk_cell (blk_alloc BK120.out _) 2).trans rfl, (blk_cell (blk_alloc BK120.out _) 3).trans rfl, (blk_cell (blk_alloc BK120.out _) 4).trans rfl, (blk_cell (blk_alloc BK113.out _) 0).trans rfl, (blk_cell (blk_alloc BK113.out _) 1).trans rfl, (blk_cell (blk_alloc BK113.out _) 2).trans rfl, (blk_cell (blk_alloc BK113.out _) 3).trans rfl, (blk_cell (blk_alloc BK113.out _) 4).trans rfl, (World.cell?_alloc_lt _ _ _ (World.block_lt_of_cell? _ _ (((HB.out.cell (World.block_lt_of_cell? w _ hw121_0)).trans hw121_0)))).trans (((HB.out.cell (World.block_lt_of_cell? w _ hw121_0)).trans hw121_0)), (World.cell?_alloc_lt _ _ _ (World.block_lt_of_cell? _ _ (((HB.out.cell (World.block_lt_of_cell? w _ hw121_1)).trans hw121_1)))).trans (((HB.out.cell (World.block_lt_of_cell? w _ hw121_1)).trans hw121_1)), (World.cell?_alloc_lt _ _ _ (World.block_lt_of_cell? _ _ (((HB.out.cell (World.block_lt_of_cell? w _ hw125_0)).trans hw125_0)))).trans (((HB.out.cell (World.block_lt_of_cell? w _ hw125_0)).trans hw125_0)), (World.cell?_alloc_lt _ _ _ (World.block_lt_of_cell? _ _ (((HB.out.cell (World.block_lt_of_cell? w _ hw125_1)).trans hw125_1)))).trans (((HB.out.cell (World.block_lt_of_cell? w _ hw125_1)).trans hw125_1))⟩ (fun hHeld => ?_)
      clear hK K
      refine norm_ (a' := ?_) ?_ ?_
      rotate_left
      · show Act.put _ (some 68) _ = _
        simp only [Act.put, List.setIfInBounds_toArray, List.set_cons_zero, List.set_cons_succ, i64_w, i32_w]
        rfl
      refine one_ (i := 18) (N := some 69) (bt 21 524287) rfl rfl (one_of HT_.out (by kernel_rfl)) (by decide) (fun K hK => ?_)
      refine Kd.S_append_step k62 (w0 := w) w.heap.size (by rfl) (.tmp 52) (.tmp 68) 49 62 (.agg #[(.int .i64 0), (.slice none 0 0)]) 32 rfl Try.underlying49 info62 rfl (by decide) (by omega) u121000 x121000_2 (⟨(rd_T62 ((rd_T52 l0_3 x4_1).f0) x7_2).f0, y126⟩ : S62) [.int .i64 ((rd_T62 ((rd_T52 l0_3 x4_1).f0) x7_2).f0), .slice Ao55 y126.length co55] (fun k_ => some k_ ≠ (.slice Ao12 y108.length co12 : Value).ownBlock ∧ some k_ ≠ (.slice Ao36 y117.length co36 : Value).ownBlock) (fun k_ => some k_ = (.slice Ao55 y126.length co55 : Value).ownBlock) rfl rfl ?aP (fun k_ hk_ => ((R_mono (ok' := fun k_ => ((fun k_ => some k_ ≠ (.slice Ao12 y108.length co12 : Value).ownBlock ∧ some k_ ≠ (.slice Ao36 y117.length co36 : Value).ownBlock)) k_ ∧ some k_ ≠ (u121000 : Value).ownBlock) (Kd.R_apart' (HO128.out) (Kd.S_typed HO_121000.out) (by decide)) (fun k_ hk => ⟨⟨hk.1.1, hk.1.2⟩, hk.2⟩))).1 k_ hk_.symm) ?aF ?aO ?aB ?aS ?aL ?_
      (case aP => exact k62_mkM _ _ _ (⟨(rd_T62 ((rd_T52 l0_3 x4_1).f0) x7_2).f0, y126⟩ : S62) (R_mono (Kd.R_tight rfl (R_mono (ok' := fun k_ => ((fun k_ => some k_ ≠ (.slice Ao12 y108.length co12 : Value).ownBlock ∧ some k_ ≠ (.slice Ao36 y117.length co36 : Value).ownBlock)) k_ ∧ some k_ ≠ (u121000 : Value).ownBlock) (Kd.R_apart' (HO128.out) (Kd.S_typed HO_121000.out) (by decide)) (fun k_ hk => ⟨⟨hk.1.1, hk.1.2⟩, hk.2⟩))) (fun _ h_ => h_)))
      (case aB => exact (by repeat with_reducible first | exact HB.out | apply below_alloc | apply pw_below_drewN | apply below_drew1 | refine below_set ?_ GE103.out | refine below_set ?_ GE104.out | refine below_set ?_ GE111.out | refine below_set ?_ GE113.out | refine below_set ?_ GE120.out))
      (case aF => exact (fun k_ hk => ⟨Kd.fresh' (R_lt (ru HO_112002.out)) k_ hk, Kd.fresh' (R_lt (ru HO_121004.out)) k_ hk⟩))
      (case aO => exact (su (S_mono HO_121000.out (fun k_ hk => ⟨⟨hk.1.1, hk.1.2⟩, fun e_ => hk.2 e_⟩))))
      (case aS => exact (below_size (by repeat with_reducible first | exact HB.out | apply below_alloc | apply pw_below_drewN | apply below_drew1 | refine below_set ?_ GE103.out | refine below_set ?_ GE104.out | refine below_set ?_ GE111.out | refine below_set ?_ GE113.out | refine below_set ?_ GE120.out)))
      (case aL => have := LMc45.out; omega)
      intro v130 w56 ho hb hg hat
      rw [← Ny129.out] at ho
      have n0_ := Aside0.mk (Kd.R_over' (ru HO_112002.out) (Kd.S_typed (su HO_121000.out)) (by decide) hg)
      have n1_ := Aside0.mk (Kd.R_after (ok := (fun k_ => some k_ ≠ (.slice Ao12 y108.length co12 : Value).ownBlock ∧ some k_ ≠ (.slice Ao36 y117.length co36 : Value).ownBlock ∧ some k_ ≠ (.slice Ao55 y126.length co55 : Value).ownBlock ∧ k_ ≠ gb113 ∧ k_ ≠ gb120)) (ru (R_mono HO_112003.out (fun _ hk => ⟨⟨hk.1.1, ⟨hk.1.2.2.1, ⟨hk.2, ⟨hk.1.2.2.2.1, hk.1.2.2.2.2⟩⟩⟩⟩, hk.1.2.1⟩))) hg hat)
      have n2_ := Aside0.mk (Kd.R_over' (ru HO_121004.out) (Kd.S_typed (su HO_121000.out)) (by decide) hg)
      have n3_ := Aside0.mk (blk_grown (bu BK103.out) hg (Kd.S_ne HO_121000.out BK103.out (by decide)))
      have n4_ := Aside0.mk (blk_grown (bu BK104.out) hg (Kd.S_ne HO_121000.out BK104.out (by decide)))
      have n5_ := Aside0.mk (blk_grown (bu BK111.out) hg (Kd.S_ne HO_121000.out BK111.out (by decide)))
      have n6_ := Aside0.mk (blk_grown (bu BK113.out) hg (Kd.S_ne HO_121000.out BK113.out (by decide)))
      have n7_ := Aside0.mk (blk_grown (bu BK120.out) hg (Kd.S_ne HO_121000.out BK120.out (by decide)))
      have n8_ := Aside0.mk (hb)
      have n9_ := Aside0.mk (ho)
      clear HO_112002
      clear HO_112003
      clear HO_121004
      clear BK103
      clear BK104
      clear BK111
      clear BK113
      clear BK120
      clear HB
      clear HO_121000
      clear HO128
      have HO_112002 := n0_
      have HO_112003 := n1_
      have HO_121004 := n2_
      have BK103 := n3_
      have BK104 := n4_
      have BK111 := n5_
      have BK113 := n6_
      have BK120 := n7_
      have HB := n8_
      have HO131 := n9_
      clear n0_ n1_ n2_ n3_ n4_ n5_ n6_ n7_ n8_ n9_
      clear ho hb hg hat
      obtain ⟨Ao57, co57, eo57⟩ := Kd.S_slice HO131.out
      (first | subst eo57 | (injection eo57 with f1_ f2_ f3_; have f4_ := f1_.symm; have f5_ := f3_.symm; clear f1_ f2_ f3_; subst f4_; subst f5_))
      refine hK.out _ _ ⟨(blk_cell BK120.out 0).trans rfl, (blk_cell BK120.out 1).trans rfl, (blk_cell BK120.out 2).trans rfl, (blk_cell BK120.out 3).trans rfl, (blk_cell BK120.out 4).trans rfl, (blk_cell BK113.out 0).trans rfl, (blk_cell BK113.out 1).trans rfl, (blk_cell BK113.out 2).trans rfl, (blk_cell BK113.out 3).trans rfl, (blk_cell BK113.out 4).trans rfl, ((HB.out.cell (World.block_lt_of_cell? w _ hw121_0)).trans hw121_0), ((HB.out.cell (World.block_lt_of_cell? w _ hw121_1)).trans hw121_1), ((HB.out.cell (World.block_lt_of_cell? w _ hw125_0)).trans hw125_0), ((HB.out.cell (World.block_lt_of_cell? w _ hw125_1)).trans hw125_1)⟩ (fun hHeld => ?_)
      clear hK K
      refine norm_ (a' := ?_) ?_ ?_
      rotate_left
      · show Act.put _ (some 69) _ = _
        simp only [Act.put, List.setIfInBounds_toArray, List.set_cons_zero, List.set_cons_succ, i64_w, i32_w]
        rfl
      refine pu 19 70 (bt 21 1048575) HT_.out ?_
      refine last_ (i := 20) (N := none) (bt 21 2097151) rfl rfl (one_of HT_.out (by kernel_rfl)) (by decide) (fun K hK => ?_)
      have hs58 : w56.cell? ⟨gb120, 0, none⟩ = some (u121000) := (blk_cell BK120.out 0).trans rfl
      have hfs58 := blk_frozen BK120.out 0
      have hns58_0 := NB103_120.out
      have hns58_1 := NB104_120.out
      have hns58_2 := NB111_120.out
      have hns58_3 := NB113_120.out
      have hms58_0 := NB120_103.out
      have hms58_1 := NB120_104.out
      have hms58_2 := NB120_111.out
      have hms58_3 := NB120_113.out
      refine skip_ (w1 := ?_) (by rfl) rfl ?_ ?_
      rotate_left
      · go_simp
        rfl
      refine hK.out _ _ ?_
      clear hK K
      refine done_ (done_of HT_.out (by kernel_rfl)) ?_
      try go_wp2
      go_roundg k2
      case measure => have := HK1.out; have := HK2.out; omega
      case rel => exact ⟨(wrap64 (x7_2 + 1)), (y129), (.slice Ao57 y129.length co57), (by first | rfl | (simp; done) | (simp [*]; done)), H', ⟨by have := HK1.out; have := HK2.out; omega⟩, ⟨ru (R_mono (Kd.R_far (p := ⟨gb120, 0, none⟩) (Kd.R_types HO_112002.out BK120.out (by decide)) (fun _ hk => hk.2) (.slice Ao57 y129.length co57)) (fun _ hk => hk.1.1))⟩, ⟨ru (R_mono (Kd.R_far (p := ⟨gb120, 0, none⟩) (R_mono HO_112003.out (fun k_ hk => (⟨hk, hk.1.2.2.2.2⟩ : _ ∧ k_ ≠ gb120))) (fun _ hk => hk.2) (.slice Ao57 y129.length co57)) (fun _ hk => ⟨hk.1.1.1, ⟨hk.1.2, ⟨hk.1.1.2.1, ⟨hk.1.1.2.2.2.1, hk.1.1.2.2.2.2⟩⟩⟩⟩))⟩, ⟨su (S_mono (Kd.S_far (p := ⟨gb120, 0, none⟩) (Kd.S_types HO131.out BK120.out (by decide)) (fun _ hk => hk.2) (.slice Ao57 y129.length co57)) (fun _ hk => ⟨hk.1.1, hk.1.2⟩))⟩, ⟨ru (R_mono (Kd.R_far (p := ⟨gb120, 0, none⟩) (Kd.R_types HO_121004.out BK120.out (by decide)) (fun _ hk => hk.2) (.slice Ao57 y129.length co57)) (fun _ hk => hk.1.1))⟩, ⟨by (with_reducible repeat (first | refine blk_drewN ?_ _ | refine blk_drew ?_ | refine blk_alloc ?_ _)); refine blk_far ?_ NB103_120.out _; (with_reducible repeat (first | refine blk_drewN ?_ _ | refine blk_drew ?_ | refine blk_alloc ?_ _)); exact BK103.out⟩, ⟨by (with_reducible repeat (first | refine blk_drewN ?_ _ | refine blk_drew ?_ | refine blk_alloc ?_ _)); refine blk_far ?_ NB104_120.out _; (with_reducible repeat (first | refine blk_drewN ?_ _ | refine blk_drew ?_ | refine blk_alloc ?_ _)); exact BK104.out⟩, ⟨by (with_reducible repeat (first | refine blk_drewN ?_ _ | refine blk_drew ?_ | refine blk_alloc ?_ _)); refine blk_far ?_ NB111_120.out _; (with_reducible repeat (first | refine blk_drewN ?_ _ | refine blk_drew ?_ | refine blk_alloc ?_ _)); exact BK111.out⟩, ⟨by (with_reducible repeat (first | refine blk_drewN ?_ _ | refine blk_drew ?_ | refine blk_alloc ?_ _)); refine blk_far ?_ NB113_120.out _; (with_reducible repeat (first | refine blk_drewN ?_ _ | refine blk_drew ?_ | refine blk_alloc ?_ _)); exact BK113.out⟩, ⟨by (with_reducible repeat (first | refine blk_drewN ?_ _ | refine blk_drew ?_ | refine blk_alloc ?_ _)); refine blk_put (cs := #[u121000, .slice none 0 0, .int .i64 ((rd_T52 l0_3 x4_1).f2.f0), .int .i64 ((rd_T52 l0_3 x4_1).f2.f1), .slice Ao36 y117.length co36]) ?_ 0 _ rfl; (with_reducible repeat (first | refine blk_drewN ?_ _ | refine blk_drew ?_ | refine blk_alloc ?_ _)); exact BK120.out⟩, ⟨by repeat (first | (with_reducible first | exact HB.out | apply below_alloc | apply pw_below_drewN | apply below_drew1 | refine below_set ?_ GE103.out | refine below_set ?_ GE104.out | refine below_set ?_ GE111.out | refine below_set ?_ GE113.out | refine below_set ?_ GE120.out) | exact HB.out)⟩⟩
    rw [if_neg c42] at H
    have c42b0 : decide (x7_2 < (((rd_T52 l0_3 x4_1).f0).length : Int)) = false := decide_eq_false c42
    clear c42
    have H' := Aside0.mk H
    clear H
    have hnb59 := NB113_103.out
    have hnc59 := NB103_113.out
    have hnb60 := NB113_104.out
    have hnc60 := NB104_113.out
    have hnb61 := NB113_111.out
    have hnc61 := NB111_113.out
    have hnb62 := NB113_120.out
    have hnc62 := NB120_113.out
    have hcz63_0 : wr.cell? ⟨gb113, 0, none⟩ = some (.slice A112_0 ((rd_T52 l0_3 x4_1).f0).length c112_0) := (blk_cell BK113.out 0).trans rfl
    have hcz63_1 : wr.cell? ⟨gb113, 1, none⟩ = some (.slice A112_1 ((rd_T52 l0_3 x4_1).f1).length c112_1) := (blk_cell BK113.out 1).trans rfl
    have hcz63_2 : wr.cell? ⟨gb113, 2, none⟩ = some (.int .i64 ((rd_T52 l0_3 x4_1).f2.f0)) := (blk_cell BK113.out 2).trans rfl
    have hcz63_3 : wr.cell? ⟨gb113, 3, none⟩ = some (.int .i64 ((rd_T52 l0_3 x4_1).f2.f1)) := (blk_cell BK113.out 3).trans rfl
    have hcz63_4 : wr.cell? ⟨gb113, 4, none⟩ = some (.slice A112_4 ((rd_T52 l0_3 x4_1).f2.f2).length c112_4) := (blk_cell BK113.out 4).trans rfl
    have hfz63_0 := blk_frozen BK113.out 0
    have hfz63_1 := blk_frozen BK113.out 1
    have hfz63_2 := blk_frozen BK113.out 2
    have hfz63_3 := blk_frozen BK113.out 3
    have hfz63_4 := blk_frozen BK113.out 4
    go_wp2
    go_loopg [8] k2 (fun kq v8 w' => ∃ (x8_3 : Int) (x121001_3 : List (S64)) (u121001 : Value), v8 = .int .i64 x8_3 ∧ Aside0 (fettleref02_CopyFunc.l2 kq x4_1 x8_3 a0_0 a0_1 l0_2 l0_3 a0_0 a0_1 y108 x112003_1 ((rd_T52 l0_3 x4_1).f0) ((rd_T52 l0_3 x4_1).f1) ((rd_T52 l0_3 x4_1).f2.f0) ((rd_T52 l0_3 x4_1).f2.f1) ((rd_T52 l0_3 x4_1).f2.f2) x121000_2 x121001_3 ((rd_T52 l0_3 x4_1).f2.f0) ((rd_T52 l0_3 x4_1).f2.f1) y117 = some (r1, r2, r3, r4)) ∧ Aside0 (kq ≤ k2) ∧ Aside0 (Kd.R (Kd.int .i64) 3 w' w.heap.size (fun k_ => some k_ ≠ ((.slice Ao36 y117.length co36) : Value).ownBlock) (.slice Ao12 y108.length co12) y108) ∧ Aside0 (Kd.R k52 52 w' w.heap.size (fun k_ => some k_ ≠ ((.slice Ao12 y108.length co12) : Value).ownBlock ∧ some k_ ≠ (u121000 : Value).ownBlock ∧ some k_ ≠ (u121001 : Value).ownBlock ∧ some k_ ≠ ((.slice Ao36 y117.length co36) : Value).ownBlock ∧ k_ ≠ gb113 ∧ k_ ≠ gb120) u112003 x112003_1) ∧ Aside0 (Kd.S k62 62 w' w.heap.size (fun k_ => some k_ ≠ ((.slice Ao12 y108.length co12) : Value).ownBlock ∧ some k_ ≠ ((.slice Ao36 y117.length co36) : Value).ownBlock) u121000 x121000_2) ∧ Aside0 (Kd.S k64 64 w' w.heap.size (fun k_ => some k_ ≠ ((.slice Ao12 y108.length co12) : Value).ownBlock ∧ some k_ ≠ ((.slice Ao36 y117.length co36) : Value).ownBlock) u121001 x121001_3) ∧ Aside0 (Kd.R (Kd.int .i64) 3 w' w.heap.size (fun k_ => some k_ ≠ ((.slice Ao12 y108.length co12) : Value).ownBlock) (.slice Ao36 y117.length co36) y117) ∧ Aside0 (w'.heap[gb103]? = some (.cells #[.int .i64 a0_0, .int .i64 a0_1, (.slice A0_2 l0_2.length c0_2), (.slice (some ad112) l0_3.length c0_3)] 25 (0, 0))) ∧ Aside0 (w'.heap[gb104]? = some (.cells #[.int .i64 0, .int .i64 0, (.slice none 0 0), (.slice none 0 0)] 25 (0, 0))) ∧ Aside0 (w'.heap[gb111]? = some (.cells #[.int .i64 a0_0, .int .i64 a0_1, (.slice Ao12 y108.length co12), u112003] 25 (0, 0))) ∧ Aside0 (w'.heap[gb113]? = some (.cells #[(.slice A112_0 ((rd_T52 l0_3 x4_1).f0).length c112_0), (.slice A112_1 ((rd_T52 l0_3 x4_1).f1).length c112_1), .int .i64 ((rd_T52 l0_3 x4_1).f2.f0), .int .i64 ((rd_T52 l0_3 x4_1).f2.f1), (.slice A112_4 ((rd_T52 l0_3 x4_1).f2.f2).length c112_4)] 52 (0, 0))) ∧ Aside0 (w'.heap[gb120]? = some (.cells #[u121000, u121001, .int .i64 ((rd_T52 l0_3 x4_1).f2.f0), .int .i64 ((rd_T52 l0_3 x4_1).f2.f1), (.slice Ao36 y117.length co36)] 52 (0, 0))) ∧ Aside0 (Below w.heap.size w w'))
    case atStart => exact ⟨(0), (([] : List (S64))), (.slice none 0 0), (by first | rfl | (simp; done) | (simp [*]; done)), H', ⟨Nat.le_refl _⟩, ⟨ru HO_112002.out⟩, ⟨ru (R_mono HO_112003.out (fun _ hk => ⟨hk.1, ⟨hk.2.1, ⟨(by simp [Value.ownBlock]), ⟨hk.2.2.1, ⟨hk.2.2.2.1, hk.2.2.2.2⟩⟩⟩⟩⟩))⟩, ⟨su HO_121000.out⟩, ⟨by first | exact Kd.S_nil _ _ _ _ _ | exact Kd.N_nil _ _ _ _ _ | exact Kd.V_nil _ _ _ _ _ | exact Kd.Q_nil _ _ _ _ _ | exact Kd.R_nil _ _ _ _ _⟩, ⟨ru HO_121004.out⟩, ⟨bu BK103.out⟩, ⟨bu BK104.out⟩, ⟨bu BK111.out⟩, ⟨bu BK113.out⟩, ⟨bu BK120.out⟩, ⟨by repeat (first | (with_reducible first | exact HB.out | apply below_alloc | apply pw_below_drewN | apply below_drew1 | refine below_set ?_ GE103.out | refine below_set ?_ GE104.out | refine below_set ?_ GE111.out | refine below_set ?_ GE113.out | refine below_set ?_ GE120.out) | exact HB.out)⟩⟩
    clear H'
    try clear c1
    try clear p1
    try clear q1
    try clear hx1
    try clear p2
    try clear c4
    try clear c5
    try clear c6
    try clear p6
    try clear c11
    try clear c12
    try clear p12
    try clear q12
    try clear hx12
    try clear c19
    try clear c42
    try clear c42b0
    try clear c43
    try clear c43b0
    try clear c44
    try clear c45
    try clear c46
    try clear c47
    try clear c48
    try clear c49
    try clear c59
    try clear c60
    try clear c61
    try clear c62
    try clear hcz50_0
    try clear hcz50_1
    try clear hcz50_2
    try clear hcz50_3
    try clear hcz50_4
    try clear hcz63_0
    try clear hcz63_1
    try clear hcz63_2
    try clear hcz63_3
    try clear hcz63_4
    try clear hfz50_0
    try clear hfz50_1
    try clear hfz50_2
    try clear hfz50_3
    try clear hfz50_4
    try clear hfz63_0
    try clear hfz63_1
    try clear hfz63_2
    try clear hfz63_3
    try clear hfz63_4
    try clear hx121_0
    try clear hx121_1
    try clear hx125_0
    try clear hx125_1
    try clear p121
    try clear p125
    try clear p2
    try clear q121
    try clear q125
    obtain ⟨x8_3, x121001_3, u121001, rfl, HA, HK3, HO_112002, HO_112003, HO_121000, HO_121001, HO_121004, BK103, BK104, BK111, BK113, BK120, HB⟩ := hrel
    rcases gk with _ | k3
    · exact absurd HA.out (by simp [fettleref02_CopyFunc.l2])
    have H := HA.out
    clear HA
    simp only [fettleref02_CopyFunc.l2] at H
    by_cases c64 : x8_3 < (((rd_T52 l0_3 x4_1).f1).length : Int)
    · rw [if_pos c64] at H
      have c64b0 : decide (x8_3 < (((rd_T52 l0_3 x4_1).f1).length : Int)) = true := decide_eq_true c64
      clear c64
      by_cases c65 : 0 ≤ x8_3
      rotate_left
      · rw [if_neg c65] at H
        exact absurd H (by simp)
      rw [if_pos c65] at H
      have c65b0 : decide (0 ≤ x8_3) = true := decide_eq_true c65
      clear c65
      obtain ⟨y134, hy134⟩ : ∃ y_ : List Int, y_ = (([] : List Int)) := ⟨_, rfl⟩
      replace H : (if y134.length + ((rd_T64 ((rd_T52 l0_3 x4_1).f1) x8_3).f2).length < 17592186044416 then (if x121001_3.length < 2513169434916 then (fettleref02_CopyFunc.l2 k3 x4_1 (wrap64 (x8_3 + 1)) a0_0 a0_1 l0_2 l0_3 a0_0 a0_1 y108 x112003_1 ((rd_T52 l0_3 x4_1).f0) ((rd_T52 l0_3 x4_1).f1) ((rd_T52 l0_3 x4_1).f2.f0) ((rd_T52 l0_3 x4_1).f2.f1) ((rd_T52 l0_3 x4_1).f2.f2) x121000_2 (x121001_3 ++ [(⟨(rd_T64 ((rd_T52 l0_3 x4_1).f1) x8_3).f0, (rd_T64 ((rd_T52 l0_3 x4_1).f1) x8_3).f1, (y134 ++ ((rd_T64 ((rd_T52 l0_3 x4_1).f1) x8_3).f2)), (rd_T64 ((rd_T52 l0_3 x4_1).f1) x8_3).f3, (rd_T64 ((rd_T52 l0_3 x4_1).f1) x8_3).f4⟩ : S64)]) ((rd_T52 l0_3 x4_1).f2.f0) ((rd_T52 l0_3 x4_1).f2.f1) y117) else (none)) else (none)) = some (r1, r2, r3, r4) := by first | (rw [hy134]; with_reducible exact H) | (have H2_ := (Option.bind_some _ _).symm.trans H; rw [hy134]; with_reducible exact H2_) | exact H
      have Ny134 := Aside0.mk hy134
      clear hy134
      by_cases c66 : y134.length + ((rd_T64 ((rd_T52 l0_3 x4_1).f1) x8_3).f2).length < 17592186044416
      rotate_left
      · rw [if_neg c66] at H
        exact absurd H (by simp)
      rw [if_pos c66] at H
      have LMc66 := Aside0.mk c66
      clear c66
      obtain ⟨y137, hy137⟩ : ∃ y_ : List Int, y_ = (y134 ++ ((rd_T64 ((rd_T52 l0_3 x4_1).f1) x8_3).f2)) := ⟨_, rfl⟩
      replace H : (if x121001_3.length < 2513169434916 then (fettleref02_CopyFunc.l2 k3 x4_1 (wrap64 (x8_3 + 1)) a0_0 a0_1 l0_2 l0_3 a0_0 a0_1 y108 x112003_1 ((rd_T52 l0_3 x4_1).f0) ((rd_T52 l0_3 x4_1).f1) ((rd_T52 l0_3 x4_1).f2.f0) ((rd_T52 l0_3 x4_1).f2.f1) ((rd_T52 l0_3 x4_1).f2.f2) x121000_2 (x121001_3 ++ [(⟨(rd_T64 ((rd_T52 l0_3 x4_1).f1) x8_3).f0, (rd_T64 ((rd_T52 l0_3 x4_1).f1) x8_3).f1, y137, (rd_T64 ((rd_T52 l0_3 x4_1).f1) x8_3).f3, (rd_T64 ((rd_T52 l0_3 x4_1).f1) x8_3).f4⟩ : S64)]) ((rd_T52 l0_3 x4_1).f2.f0) ((rd_T52 l0_3 x4_1).f2.f1) y117) else (none)) = some (r1, r2, r3, r4) := by first | (rw [hy137]; with_reducible exact H) | (have H2_ := (Option.bind_some _ _).symm.trans H; rw [hy137]; with_reducible exact H2_) | exact H
      have Ny137 := Aside0.mk hy137
      clear hy137
      by_cases c67 : x121001_3.length < 2513169434916
      rotate_left
      · rw [if_neg c67] at H
        exact absurd H (by simp)
      rw [if_pos c67] at H
      have LMc67 := Aside0.mk c67
      clear c67
      obtain ⟨y140, hy140⟩ : ∃ y_ : List (S64), y_ = (x121001_3 ++ [(⟨(rd_T64 ((rd_T52 l0_3 x4_1).f1) x8_3).f0, (rd_T64 ((rd_T52 l0_3 x4_1).f1) x8_3).f1, y137, (rd_T64 ((rd_T52 l0_3 x4_1).f1) x8_3).f3, (rd_T64 ((rd_T52 l0_3 x4_1).f1) x8_3).f4⟩ : S64)]) := ⟨_, rfl⟩
      replace H : (fettleref02_CopyFunc.l2 k3 x4_1 (wrap64 (x8_3 + 1)) a0_0 a0_1 l0_2 l0_3 a0_0 a0_1 y108 x112003_1 ((rd_T52 l0_3 x4_1).f0) ((rd_T52 l0_3 x4_1).f1) ((rd_T52 l0_3 x4_1).f2.f0) ((rd_T52 l0_3 x4_1).f2.f1) ((rd_T52 l0_3 x4_1).f2.f2) x121000_2 y140 ((rd_T52 l0_3 x4_1).f2.f0) ((rd_T52 l0_3 x4_1).f2.f1) y117) = some (r1, r2, r3, r4) := by first | (rw [hy140]; with_reducible exact H) | (have H2_ := (Option.bind_some _ _).symm.trans H; rw [hy140]; with_reducible exact H2_) | exact H
      have Ny140 := Aside0.mk hy140
      clear hy140
      have H' := Aside0.mk H
      clear H
      have hnb68 := NB113_103.out
      have hnc68 := NB103_113.out
      have hnb69 := NB113_104.out
      have hnc69 := NB104_113.out
      have hnb70 := NB113_111.out
      have hnc70 := NB111_113.out
      have hnb71 := NB113_120.out
      have hnc71 := NB120_113.out
      have hcz72_0 : wr.cell? ⟨gb113, 0, none⟩ = some (.slice A112_0 ((rd_T52 l0_3 x4_1).f0).length c112_0) := (blk_cell BK113.out 0).trans rfl
      have hcz72_1 : wr.cell? ⟨gb113, 1, none⟩ = some (.slice A112_1 ((rd_T52 l0_3 x4_1).f1).length c112_1) := (blk_cell BK113.out 1).trans rfl
      have hcz72_2 : wr.cell? ⟨gb113, 2, none⟩ = some (.int .i64 ((rd_T52 l0_3 x4_1).f2.f0)) := (blk_cell BK113.out 2).trans rfl
      have hcz72_3 : wr.cell? ⟨gb113, 3, none⟩ = some (.int .i64 ((rd_T52 l0_3 x4_1).f2.f1)) := (blk_cell BK113.out 3).trans rfl
      have hcz72_4 : wr.cell? ⟨gb113, 4, none⟩ = some (.slice A112_4 ((rd_T52 l0_3 x4_1).f2.f2).length c112_4) := (blk_cell BK113.out 4).trans rfl
      have hfz72_0 := blk_frozen BK113.out 0
      have hfz72_1 := blk_frozen BK113.out 1
      have hfz72_2 := blk_frozen BK113.out 2
      have hfz72_3 := blk_frozen BK113.out 3
      have hfz72_4 := blk_frozen BK113.out 4
      have p132 : 0 ≤ (x8_3 : Int) := of_decide_eq_true (by with_reducible assumption)
      have q132 : x8_3 < (((rd_T52 l0_3 x4_1).f1).length : Int) := of_decide_eq_true (by with_reducible assumption)
      obtain ⟨ad132, A132_2, c132_2, e132, hx132_0, hx132_1, hx132_2, hx132_3, hx132_4, hl132_2, hi132_2⟩ := at_T64 HR112_1.out x8_3 p132 q132
      cases e132
      replace hx132_0 := (HB.out.cell (World.block_lt_of_cell? w _ hx132_0)).trans hx132_0
      replace hx132_1 := (HB.out.cell (World.block_lt_of_cell? w _ hx132_1)).trans hx132_1
      replace hx132_2 := (HB.out.cell (World.block_lt_of_cell? w _ hx132_2)).trans hx132_2
      replace hx132_3 := (HB.out.cell (World.block_lt_of_cell? w _ hx132_3)).trans hx132_3
      replace hx132_4 := (HB.out.cell (World.block_lt_of_cell? w _ hx132_4)).trans hx132_4
      have HR132_2 := Aside0.mk hi132_2
      have HC132_2 := Aside0.mk hl132_2
      clear hi132_2 hl132_2
      replace p132 := eq_true p132
      replace q132 := eq_true q132
      go_wp2_with (first | ((with_reducible refine gate_dst (N := 9) rfl ?_); refine box_event ?hg (N := 9) ?hd (cs := #[.int .i64 0, .int .i64 0, .slice none 0 0, .int .i64 0, .int .i64 0]) (t := 64) ?hr ?_; (case hd => rfl); (case hg => rfl); (case hr => first | (go_simp; done) | (go_simp; rfl)); intro gb133 hg w73 hbox hb; have n0_ := Aside0.mk (Kd.R_below (ru HO_112002.out) hb); have n1_ := Aside0.mk (Kd.R_below (Kd.R_elderB (ru HO_112003.out) gb133 (Nat.le_of_eq hg.symm)) hb); have n2_ := Aside0.mk (Kd.S_below (su HO_121000.out) hb); have n3_ := Aside0.mk (Kd.S_below (Kd.S_elderB (su HO_121001.out) gb133 (Nat.le_of_eq hg.symm)) hb); have n4_ := Aside0.mk (Kd.R_below (ru HO_121004.out) hb); have n5_ := Aside0.mk (blk_below (bu BK103.out) hb); have n6_ := Aside0.mk (blk_below (bu BK104.out) hb); have n7_ := Aside0.mk (blk_below (bu BK111.out) hb); have n8_ := Aside0.mk (blk_below (bu BK113.out) hb); have n9_ := Aside0.mk (blk_below (bu BK120.out) hb); have n10_ := Aside0.mk (below_step (by repeat with_reducible first | exact HB.out | apply below_alloc | apply pw_below_drewN | apply below_drew1 | refine below_set ?_ GE103.out | refine below_set ?_ GE104.out | refine below_set ?_ GE111.out | refine below_set ?_ GE113.out | refine below_set ?_ GE120.out) hb); have n11_ := Aside0.mk (hbox); have n12_ := Aside0.mk ((by rw [hg]; exact (below_size (by repeat with_reducible first | exact HB.out | apply below_alloc | apply pw_below_drewN | apply below_drew1 | refine below_set ?_ GE103.out | refine below_set ?_ GE104.out | refine below_set ?_ GE111.out | refine below_set ?_ GE113.out | refine below_set ?_ GE120.out)) : w.heap.size ≤ gb133)); have n13_ := Aside0.mk ((by rw [hg]; exact (below_size (by repeat with_reducible first | exact HB.out | apply below_alloc | apply pw_below_drewN | apply below_drew1 | refine below_set ?_ GE103.out | refine below_set ?_ GE104.out | refine below_set ?_ GE111.out | refine below_set ?_ GE113.out | refine below_set ?_ GE120.out)) : w.heap.size ≤ gb133)); have n14_ := Aside0.mk ((by rw [hg]; exact Nat.ne_of_lt (blk_lt (bu BK103.out)) : gb103 ≠ gb133)); have n15_ := Aside0.mk ((by rw [hg]; exact Nat.ne_of_gt (blk_lt (bu BK103.out)) : gb133 ≠ gb103)); have n16_ := Aside0.mk ((by rw [hg]; exact Nat.ne_of_lt (blk_lt (bu BK104.out)) : gb104 ≠ gb133)); have n17_ := Aside0.mk ((by rw [hg]; exact Nat.ne_of_gt (blk_lt (bu BK104.out)) : gb133 ≠ gb104)); have n18_ := Aside0.mk ((by rw [hg]; exact Nat.ne_of_lt (blk_lt (bu BK111.out)) : gb111 ≠ gb133)); have n19_ := Aside0.mk ((by rw [hg]; exact Nat.ne_of_gt (blk_lt (bu BK111.out)) : gb133 ≠ gb111)); have n20_ := Aside0.mk ((by rw [hg]; exact Nat.ne_of_lt (blk_lt (bu BK113.out)) : gb113 ≠ gb133)); have n21_ := Aside0.mk ((by rw [hg]; exact Nat.ne_of_gt (blk_lt (bu BK113.out)) : gb133 ≠ gb113)); have n22_ := Aside0.mk ((by rw [hg]; exact Nat.ne_of_lt (blk_lt (bu BK120.out)) : gb120 ≠ gb133)); have n23_ := Aside0.mk ((by rw [hg]; exact Nat.ne_of_gt (blk_lt (bu BK120.out)) : gb133 ≠ gb120)); clear HO_112002; clear HO_112003; clear HO_121000; clear HO_121001; clear HO_121004; clear BK103; clear BK104; clear BK111; clear BK113; clear BK120; clear HB; have HO_112002 := n0_; have HO_112003 := n1_; have HO_121000 := n2_; have HO_121001 := n3_; have HO_121004 := n4_; have BK103 := n5_; have BK104 := n6_; have BK111 := n7_; have BK113 := n8_; have BK120 := n9_; have HB := n10_; have BK133 := n11_; have GW133 := n12_; have GE133 := n13_; have NB103_133 := n14_; have NB133_103 := n15_; have NB104_133 := n16_; have NB133_104 := n17_; have NB111_133 := n18_; have NB133_111 := n19_; have NB113_133 := n20_; have NB133_113 := n21_; have NB120_133 := n22_; have NB133_120 := n23_; clear n0_ n1_ n2_ n3_ n4_ n5_ n6_ n7_ n8_ n9_ n10_ n11_ n12_ n13_ n14_ n15_ n16_ n17_ n18_ n19_ n20_ n21_ n22_ n23_; clear hb hbox hg; have hnb74 := NB133_103.out; have hnc74 := NB103_133.out; have hnb75 := NB133_104.out; have hnc75 := NB104_133.out; have hnb76 := NB133_111.out; have hnc76 := NB111_133.out; have hnb77 := NB133_113.out; have hnc77 := NB113_133.out; have hnb78 := NB133_120.out; have hnc78 := NB120_133.out; have hcz79_0 : w73.cell? ⟨gb133, 0, none⟩ = some (.int .i64 0) := (blk_cell BK133.out 0).trans rfl; have hcz79_1 : w73.cell? ⟨gb133, 1, none⟩ = some (.int .i64 0) := (blk_cell BK133.out 1).trans rfl; have hcz79_2 : w73.cell? ⟨gb133, 2, none⟩ = some (.slice none 0 0) := (blk_cell BK133.out 2).trans rfl; have hcz79_3 : w73.cell? ⟨gb133, 3, none⟩ = some (.int .i64 0) := (blk_cell BK133.out 3).trans rfl; have hcz79_4 : w73.cell? ⟨gb133, 4, none⟩ = some (.int .i64 0) := (blk_cell BK133.out 4).trans rfl; have hfz79_0 := blk_frozen BK133.out 0; have hfz79_1 := blk_frozen BK133.out 1; have hfz79_2 := blk_frozen BK133.out 2; have hfz79_3 := blk_frozen BK133.out 3; have hfz79_4 := blk_frozen BK133.out 4) | ((with_reducible refine gate_dst (N := 83) rfl ?_); refine Kd.R_lit (Kd.int .i64) _ 3 ?hg (N := 83) ?hd (xs := ([] : List Int)) (inner := []) (ok := fun _ => True) (okp := fun _ => True) ?hr ?hp (fun _ hk => hk) trivial (Below.refl _ _) (Nat.le_refl _) (by simp) ?_; (case hd => rfl); (case hg => rfl); (case hr => first | (go_simp; done) | (go_simp; rfl)); (case hp => exact (Reps.none _ _)); intro v135 w80 ho81 hb hg_ hnew_; clear hg_ hnew_; rw [← Ny134.out] at ho81; have n0_ := Aside0.mk (R_elder' (ru ((R_mono (Kd.R_far (p := ⟨gb133, 4, none⟩) (Kd.R_far (p := ⟨gb133, 3, none⟩) (Kd.R_far (p := ⟨gb133, 2, none⟩) (Kd.R_far (p := ⟨gb133, 1, none⟩) (Kd.R_far (p := ⟨gb133, 0, none⟩) (Kd.R_types HO_112002.out BK133.out (by decide)) (fun _ hk => hk.2) (.int .i64 ((rd_T64 ((rd_T52 l0_3 x4_1).f1) x8_3).f0))) (fun _ hk => hk.2) (.int .i64 ((rd_T64 ((rd_T52 l0_3 x4_1).f1) x8_3).f1))) (fun _ hk => hk.2) (.slice A132_2 ((rd_T64 ((rd_T52 l0_3 x4_1).f1) x8_3).f2).length c132_2)) (fun _ hk => hk.2) (.int .i64 ((rd_T64 ((rd_T52 l0_3 x4_1).f1) x8_3).f3))) (fun _ hk => hk.2) (.int .i64 ((rd_T64 ((rd_T52 l0_3 x4_1).f1) x8_3).f4))) (fun _ h_ => h_.1)))) (R_base ho81) hb); have n1_ := Aside0.mk (R_elder' (ru ((R_mono (Kd.R_far (p := ⟨gb133, 4, none⟩) (Kd.R_far (p := ⟨gb133, 3, none⟩) (Kd.R_far (p := ⟨gb133, 2, none⟩) (Kd.R_far (p := ⟨gb133, 1, none⟩) (Kd.R_far (p := ⟨gb133, 0, none⟩) (R_mono HO_112003.out (fun k_ hk => (⟨hk, hk.2⟩ : _ ∧ k_ ≠ gb133))) (fun _ hk => hk.2) (.int .i64 ((rd_T64 ((rd_T52 l0_3 x4_1).f1) x8_3).f0))) (fun _ hk => hk.2) (.int .i64 ((rd_T64 ((rd_T52 l0_3 x4_1).f1) x8_3).f1))) (fun _ hk => hk.2) (.slice A132_2 ((rd_T64 ((rd_T52 l0_3 x4_1).f1) x8_3).f2).length c132_2)) (fun _ hk => hk.2) (.int .i64 ((rd_T64 ((rd_T52 l0_3 x4_1).f1) x8_3).f3))) (fun _ hk => hk.2) (.int .i64 ((rd_T64 ((rd_T52 l0_3 x4_1).f1) x8_3).f4))) (fun _ h_ => h_.1)))) (R_base ho81) hb); have n2_ := Aside0.mk (Kd.S_elder' (su ((S_mono (Kd.S_far (p := ⟨gb133, 4, none⟩) (Kd.S_far (p := ⟨gb133, 3, none⟩) (Kd.S_far (p := ⟨gb133, 2, none⟩) (Kd.S_far (p := ⟨gb133, 1, none⟩) (Kd.S_far (p := ⟨gb133, 0, none⟩) (Kd.S_types HO_121000.out BK133.out (by decide)) (fun _ hk => hk.2) (.int .i64 ((rd_T64 ((rd_T52 l0_3 x4_1).f1) x8_3).f0))) (fun _ hk => hk.2) (.int .i64 ((rd_T64 ((rd_T52 l0_3 x4_1).f1) x8_3).f1))) (fun _ hk => hk.2) (.slice A132_2 ((rd_T64 ((rd_T52 l0_3 x4_1).f1) x8_3).f2).length c132_2)) (fun _ hk => hk.2) (.int .i64 ((rd_T64 ((rd_T52 l0_3 x4_1).f1) x8_3).f3))) (fun _ hk => hk.2) (.int .i64 ((rd_T64 ((rd_T52 l0_3 x4_1).f1) x8_3).f4))) (fun _ h_ => h_.1)))) (R_base ho81) hb); have n3_ := Aside0.mk (Kd.S_elder' (su ((S_mono (Kd.S_far (p := ⟨gb133, 4, none⟩) (Kd.S_far (p := ⟨gb133, 3, none⟩) (Kd.S_far (p := ⟨gb133, 2, none⟩) (Kd.S_far (p := ⟨gb133, 1, none⟩) (Kd.S_far (p := ⟨gb133, 0, none⟩) (S_mono HO_121001.out (fun k_ hk => (⟨hk, hk.2⟩ : _ ∧ k_ ≠ gb133))) (fun _ hk => hk.2) (.int .i64 ((rd_T64 ((rd_T52 l0_3 x4_1).f1) x8_3).f0))) (fun _ hk => hk.2) (.int .i64 ((rd_T64 ((rd_T52 l0_3 x4_1).f1) x8_3).f1))) (fun _ hk => hk.2) (.slice A132_2 ((rd_T64 ((rd_T52 l0_3 x4_1).f1) x8_3).f2).length c132_2)) (fun _ hk => hk.2) (.int .i64 ((rd_T64 ((rd_T52 l0_3 x4_1).f1) x8_3).f3))) (fun _ hk => hk.2) (.int .i64 ((rd_T64 ((rd_T52 l0_3 x4_1).f1) x8_3).f4))) (fun _ h_ => h_.1)))) (R_base ho81) hb); have n4_ := Aside0.mk (R_elder' (ru ((R_mono (Kd.R_far (p := ⟨gb133, 4, none⟩) (Kd.R_far (p := ⟨gb133, 3, none⟩) (Kd.R_far (p := ⟨gb133, 2, none⟩) (Kd.R_far (p := ⟨gb133, 1, none⟩) (Kd.R_far (p := ⟨gb133, 0, none⟩) (Kd.R_types HO_121004.out BK133.out (by decide)) (fun _ hk => hk.2) (.int .i64 ((rd_T64 ((rd_T52 l0_3 x4_1).f1) x8_3).f0))) (fun _ hk => hk.2) (.int .i64 ((rd_T64 ((rd_T52 l0_3 x4_1).f1) x8_3).f1))) (fun _ hk => hk.2) (.slice A132_2 ((rd_T64 ((rd_T52 l0_3 x4_1).f1) x8_3).f2).length c132_2)) (fun _ hk => hk.2) (.int .i64 ((rd_T64 ((rd_T52 l0_3 x4_1).f1) x8_3).f3))) (fun _ hk => hk.2) (.int .i64 ((rd_T64 ((rd_T52 l0_3 x4_1).f1) x8_3).f4))) (fun _ h_ => h_.1)))) (R_base ho81) hb); have n5_ := Aside0.mk (Kd.R_lower (R_new' (R_new' ho81 (R_lt (ru ((R_mono (Kd.R_far (p := ⟨gb133, 4, none⟩) (Kd.R_far (p := ⟨gb133, 3, none⟩) (Kd.R_far (p := ⟨gb133, 2, none⟩) (Kd.R_far (p := ⟨gb133, 1, none⟩) (Kd.R_far (p := ⟨gb133, 0, none⟩) (Kd.R_types HO_112002.out BK133.out (by decide)) (fun _ hk => hk.2) (.int .i64 ((rd_T64 ((rd_T52 l0_3 x4_1).f1) x8_3).f0))) (fun _ hk => hk.2) (.int .i64 ((rd_T64 ((rd_T52 l0_3 x4_1).f1) x8_3).f1))) (fun _ hk => hk.2) (.slice A132_2 ((rd_T64 ((rd_T52 l0_3 x4_1).f1) x8_3).f2).length c132_2)) (fun _ hk => hk.2) (.int .i64 ((rd_T64 ((rd_T52 l0_3 x4_1).f1) x8_3).f3))) (fun _ hk => hk.2) (.int .i64 ((rd_T64 ((rd_T52 l0_3 x4_1).f1) x8_3).f4))) (fun _ h_ => h_.1)))))) (R_lt (ru ((R_mono (Kd.R_far (p := ⟨gb133, 4, none⟩) (Kd.R_far (p := ⟨gb133, 3, none⟩) (Kd.R_far (p := ⟨gb133, 2, none⟩) (Kd.R_far (p := ⟨gb133, 1, none⟩) (Kd.R_far (p := ⟨gb133, 0, none⟩) (Kd.R_types HO_121004.out BK133.out (by decide)) (fun _ hk => hk.2) (.int .i64 ((rd_T64 ((rd_T52 l0_3 x4_1).f1) x8_3).f0))) (fun _ hk => hk.2) (.int .i64 ((rd_T64 ((rd_T52 l0_3 x4_1).f1) x8_3).f1))) (fun _ hk => hk.2) (.slice A132_2 ((rd_T64 ((rd_T52 l0_3 x4_1).f1) x8_3).f2).length c132_2)) (fun _ hk => hk.2) (.int .i64 ((rd_T64 ((rd_T52 l0_3 x4_1).f1) x8_3).f3))) (fun _ hk => hk.2) (.int .i64 ((rd_T64 ((rd_T52 l0_3 x4_1).f1) x8_3).f4))) (fun _ h_ => h_.1)))))) (below_size (by repeat with_reducible first | exact HB.out | apply below_alloc | apply pw_below_drewN | apply below_drew1 | refine below_set ?_ GE103.out | refine below_set ?_ GE104.out | refine below_set ?_ GE111.out | refine below_set ?_ GE113.out | refine below_set ?_ GE120.out | refine below_set ?_ GE133.out))); have n6_ := Aside0.mk (blk_below (g := gb103) (o := .cells #[.int .i64 a0_0, .int .i64 a0_1, .slice A0_2 l0_2.length c0_2, .slice (some ad112) l0_3.length c0_3] 25 (0, 0)) (by (with_reducible repeat (first | refine blk_drewN ?_ _ | refine blk_drew ?_ | refine blk_alloc ?_ _)); refine blk_far ?_ NB103_133.out _; (with_reducible repeat (first | refine blk_drewN ?_ _ | refine blk_drew ?_ | refine blk_alloc ?_ _)); refine blk_far ?_ NB103_133.out _; (with_reducible repeat (first | refine blk_drewN ?_ _ | refine blk_drew ?_ | refine blk_alloc ?_ _)); refine blk_far ?_ NB103_133.out _; (with_reducible repeat (first | refine blk_drewN ?_ _ | refine blk_drew ?_ | refine blk_alloc ?_ _)); refine blk_far ?_ NB103_133.out _; (with_reducible repeat (first | refine blk_drewN ?_ _ | refine blk_drew ?_ | refine blk_alloc ?_ _)); refine blk_far ?_ NB103_133.out _; (with_reducible repeat (first | refine blk_drewN ?_ _ | refine blk_drew ?_ | refine blk_alloc ?_ _)); exact BK103.out) hb); have n7_ := Aside0.mk (blk_below (g := gb104) (o := .cells #[.int .i64 0, .int .i64 0, .slice none 0 0, .slice none 0 0] 25 (0, 0)) (by (with_reducible repeat (first | refine blk_drewN ?_ _ | refine blk_drew ?_ | refine blk_alloc ?_ _)); refine blk_far ?_ NB104_133.out _; (with_reducible repeat (first | refine blk_drewN ?_ _ | refine blk_drew ?_ | refine blk_alloc ?_ _)); refine blk_far ?_ NB104_133.out _; (with_reducible repeat (first | refine blk_drewN ?_ _ | refine blk_drew ?_ | refine blk_alloc ?_ _)); refine blk_far ?_ NB104_133.out _; (with_reducible repeat (first | refine blk_drewN ?_ _ | refine blk_drew ?_ | refine blk_alloc ?_ _)); refine blk_far ?_ NB104_133.out _; (with_reducible repeat (first | refine blk_drewN ?_ _ | refine blk_drew ?_ | refine blk_alloc ?_ _)); refine blk_far ?_ NB104_133.out _; (with_reducible repeat (first | refine blk_drewN ?_ _ | refine blk_drew ?_ | refine blk_alloc ?_ _)); exact BK104.out) hb); have n8_ := Aside0.mk (blk_below (g := gb111) (o := .cells #[.int .i64 a0_0, .int .i64 a0_1, .slice Ao12 y108.length co12, u112003] 25 (0, 0)) (by (with_reducible repeat (first | refine blk_drewN ?_ _ | refine blk_drew ?_ | refine blk_alloc ?_ _)); refine blk_far ?_ NB111_133.out _; (with_reducible repeat (first | refine blk_drewN ?_ _ | refine blk_drew ?_ | refine blk_alloc ?_ _)); refine blk_far ?_ NB111_133.out _; (with_reducible repeat (first | refine blk_drewN ?_ _ | refine blk_drew ?_ | refine blk_alloc ?_ _)); refine blk_far ?_ NB111_133.out _; (with_reducible repeat (first | refine blk_drewN ?_ _ | refine blk_drew ?_ | refine blk_alloc ?_ _)); refine blk_far ?_ NB111_133.out _; (with_reducible repeat (first | refine blk_drewN ?_ _ | refine blk_drew ?_ | refine blk_alloc ?_ _)); refine blk_far ?_ NB111_133.out _; (with_reducible repeat (first | refine blk_drewN ?_ _ | refine blk_drew ?_ | refine blk_alloc ?_ _)); exact BK111.out) hb); have n9_ := Aside0.mk (blk_below (g := gb113) (o := .cells #[.slice A112_0 ((rd_T52 l0_3 x4_1).f0).length c112_0, .slice (some ad132) ((rd_T52 l0_3 x4_1).f1).length c112_1, .int .i64 ((rd_T52 l0_3 x4_1).f2.f0), .int .i64 ((rd_T52 l0_3 x4_1).f2.f1), .slice A112_4 ((rd_T52 l0_3 x4_1).f2.f2).length c112_4] 52 (0, 0)) (by (with_reducible repeat (first | refine blk_drewN ?_ _ | refine blk_drew ?_ | refine blk_alloc ?_ _)); refine blk_far ?_ NB113_133.out _; (with_reducible repeat (first | refine blk_drewN ?_ _ | refine blk_drew ?_ | refine blk_alloc ?_ _)); refine blk_far ?_ NB113_133.out _; (with_reducible repeat (first | refine blk_drewN ?_ _ | refine blk_drew ?_ | refine blk_alloc ?_ _)); refine blk_far ?_ NB113_133.out _; (with_reducible repeat (first | refine blk_drewN ?_ _ | refine blk_drew ?_ | refine blk_alloc ?_ _)); refine blk_far ?_ NB113_133.out _; (with_reducible repeat (first | refine blk_drewN ?_ _ | refine blk_drew ?_ | refine blk_alloc ?_ _)); refine blk_far ?_ NB113_133.out _; (with_reducible repeat (first | refine blk_drewN ?_ _ | refine blk_drew ?_ | refine blk_alloc ?_ _)); exact BK113.out) hb); have n10_ := Aside0.mk (blk_below (g := gb120) (o := .cells #[u121000, u121001, .int .i64 ((rd_T52 l0_3 x4_1).f2.f0), .int .i64 ((rd_T52 l0_3 x4_1).f2.f1), .slice Ao36 y117.length co36] 52 (0, 0)) (by (with_reducible repeat (first | refine blk_drewN ?_ _ | refine blk_drew ?_ | refine blk_alloc ?_ _)); refine blk_far ?_ NB120_133.out _; (with_reducible repeat (first | refine blk_drewN ?_ _ | refine blk_drew ?_ | refine blk_alloc ?_ _)); refine blk_far ?_ NB120_133.out _; (with_reducible repeat (first | refine blk_drewN ?_ _ | refine blk_drew ?_ | refine blk_alloc ?_ _)); refine blk_far ?_ NB120_133.out _; (with_reducible repeat (first | refine blk_drewN ?_ _ | refine blk_drew ?_ | refine blk_alloc ?_ _)); refine blk_far ?_ NB120_133.out _; (with_reducible repeat (first | refine blk_drewN ?_ _ | refine blk_drew ?_ | refine blk_alloc ?_ _)); refine blk_far ?_ NB120_133.out _; (with_reducible repeat (first | refine blk_drewN ?_ _ | refine blk_drew ?_ | refine blk_alloc ?_ _)); exact BK120.out) hb); have n11_ := Aside0.mk (blk_below (g := gb133) (o := .cells #[.int .i64 ((rd_T64 ((rd_T52 l0_3 x4_1).f1) x8_3).f0), .int .i64 ((rd_T64 ((rd_T52 l0_3 x4_1).f1) x8_3).f1), .slice A132_2 ((rd_T64 ((rd_T52 l0_3 x4_1).f1) x8_3).f2).length c132_2, .int .i64 ((rd_T64 ((rd_T52 l0_3 x4_1).f1) x8_3).f3), .int .i64 ((rd_T64 ((rd_T52 l0_3 x4_1).f1) x8_3).f4)] 64 (0, 0)) (by (with_reducible repeat (first | refine blk_drewN ?_ _ | refine blk_drew ?_ | refine blk_alloc ?_ _)); refine blk_put (cs := #[.int .i64 ((rd_T64 ((rd_T52 l0_3 x4_1).f1) x8_3).f0), .int .i64 ((rd_T64 ((rd_T52 l0_3 x4_1).f1) x8_3).f1), .slice A132_2 ((rd_T64 ((rd_T52 l0_3 x4_1).f1) x8_3).f2).length c132_2, .int .i64 ((rd_T64 ((rd_T52 l0_3 x4_1).f1) x8_3).f3), .int .i64 0]) ?_ 4 _ rfl; (with_reducible repeat (first | refine blk_drewN ?_ _ | refine blk_drew ?_ | refine blk_alloc ?_ _)); refine blk_put (cs := #[.int .i64 ((rd_T64 ((rd_T52 l0_3 x4_1).f1) x8_3).f0), .int .i64 ((rd_T64 ((rd_T52 l0_3 x4_1).f1) x8_3).f1), .slice A132_2 ((rd_T64 ((rd_T52 l0_3 x4_1).f1) x8_3).f2).length c132_2, .int .i64 0, .int .i64 0]) ?_ 3 _ rfl; (with_reducible repeat (first | refine blk_drewN ?_ _ | refine blk_drew ?_ | refine blk_alloc ?_ _)); refine blk_put (cs := #[.int .i64 ((rd_T64 ((rd_T52 l0_3 x4_1).f1) x8_3).f0), .int .i64 ((rd_T64 ((rd_T52 l0_3 x4_1).f1) x8_3).f1), .slice none 0 0, .int .i64 0, .int .i64 0]) ?_ 2 _ rfl; (with_reducible repeat (first | refine blk_drewN ?_ _ | refine blk_drew ?_ | refine blk_alloc ?_ _)); refine blk_put (cs := #[.int .i64 ((rd_T64 ((rd_T52 l0_3 x4_1).f1) x8_3).f0), .int .i64 0, .slice none 0 0, .int .i64 0, .int .i64 0]) ?_ 1 _ rfl; (with_reducible repeat (first | refine blk_drewN ?_ _ | refine blk_drew ?_ | refine blk_alloc ?_ _)); refine blk_put (cs := #[.int .i64 0, .int .i64 0, .slice none 0 0, .int .i64 0, .int .i64 0]) ?_ 0 _ rfl; (with_reducible repeat (first | refine blk_drewN ?_ _ | refine blk_drew ?_ | refine blk_alloc ?_ _)); exact BK133.out) hb); have n12_ := Aside0.mk (below_step (by repeat with_reducible first | exact HB.out | apply below_alloc | apply pw_below_drewN | apply below_drew1 | refine below_set ?_ GE103.out | refine below_set ?_ GE104.out | refine below_set ?_ GE111.out | refine below_set ?_ GE113.out | refine below_set ?_ GE120.out | refine below_set ?_ GE133.out) hb); clear HO_112002; clear HO_112003; clear HO_121000; clear HO_121001; clear HO_121004; clear BK103; clear BK104; clear BK111; clear BK113; clear BK120; clear BK133; clear HB; have HO_112002 := n0_; have HO_112003 := n1_; have HO_121000 := n2_; have HO_121001 := n3_; have HO_121004 := n4_; have HO136 := n5_; have BK103 := n6_; have BK104 := n7_; have BK111 := n8_; have BK113 := n9_; have BK120 := n10_; have BK133 := n11_; have HB := n12_; clear n0_ n1_ n2_ n3_ n4_ n5_ n6_ n7_ n8_ n9_ n10_ n11_ n12_; clear hb ho81; have hcz82_0 : w80.cell? ⟨gb133, 0, none⟩ = some (.int .i64 ((rd_T64 ((rd_T52 l0_3 x4_1).f1) x8_3).f0)) := (blk_cell BK133.out 0).trans rfl; have hcz82_1 : w80.cell? ⟨gb133, 1, none⟩ = some (.int .i64 ((rd_T64 ((rd_T52 l0_3 x4_1).f1) x8_3).f1)) := (blk_cell BK133.out 1).trans rfl; have hcz82_2 : w80.cell? ⟨gb133, 2, none⟩ = some (.slice A132_2 ((rd_T64 ((rd_T52 l0_3 x4_1).f1) x8_3).f2).length c132_2) := (blk_cell BK133.out 2).trans rfl; have hcz82_3 : w80.cell? ⟨gb133, 3, none⟩ = some (.int .i64 ((rd_T64 ((rd_T52 l0_3 x4_1).f1) x8_3).f3)) := (blk_cell BK133.out 3).trans rfl; have hcz82_4 : w80.cell? ⟨gb133, 4, none⟩ = some (.int .i64 ((rd_T64 ((rd_T52 l0_3 x4_1).f1) x8_3).f4)) := (blk_cell BK133.out 4).trans rfl; have hfz82_0 := blk_frozen BK133.out 0; have hfz82_1 := blk_frozen BK133.out 1; have hfz82_2 := blk_frozen BK133.out 2; have hfz82_3 := blk_frozen BK133.out 3; have hfz82_4 := blk_frozen BK133.out 4) | ((with_reducible refine gate_builtin (b := .append) (xs := #[.tmp 83, .tmp 85]) rfl ?_); at_builtin; refine Kd.R_append_rows (Kd.int .i64) (w0 := w) w.heap.size rfl (.tmp 83) (.tmp 85) 22 3 (.int .i64 0) 8 rfl Try.underlying22 info3 rfl (by decide) (by omega) v135 y134 ((rd_T64 ((rd_T52 l0_3 x4_1).f1) x8_3).f2) _ _ _ (fun k_ => some k_ ≠ (.slice Ao12 y108.length co12 : Value).ownBlock ∧ some k_ ≠ (.slice Ao36 y117.length co36 : Value).ownBlock) (fun _ => False) rfl rfl ?aO ?aR (fun _ _ h => h) (fun _ h => h.elim) ?aF ?aB ?aS ?aL ?_; (case aR => exact cu (C_below HR132_2.out HB.out)); (case aB => exact (by repeat with_reducible first | exact HB.out | apply below_alloc | apply pw_below_drewN | apply below_drew1 | refine below_set ?_ GE103.out | refine below_set ?_ GE104.out | refine below_set ?_ GE111.out | refine below_set ?_ GE113.out | refine below_set ?_ GE120.out | refine below_set ?_ GE133.out)); (case aF => exact (fun k_ hk => ⟨Kd.fresh' (R_lt (ru HO_112002.out)) k_ hk, Kd.fresh' (R_lt (ru HO_121004.out)) k_ hk⟩)); (case aO => exact (ru (R_mono HO136.out (fun _ hk => ⟨hk.1.2, hk.2⟩)))); (case aS => exact (below_size (by repeat with_reducible first | exact HB.out | apply below_alloc | apply pw_below_drewN | apply below_drew1 | refine below_set ?_ GE103.out | refine below_set ?_ GE104.out | refine below_set ?_ GE111.out | refine below_set ?_ GE113.out | refine below_set ?_ GE120.out | refine below_set ?_ GE133.out))); (case aL => have := LMc66.out; omega); intro v138 w83 ho hb hg hat; rw [← Ny137.out] at ho; have n0_ := Aside0.mk (Kd.R_after (ok := (fun k_ => some k_ ≠ (.slice Ao36 y117.length co36 : Value).ownBlock)) (ru HO_112002.out) hg hat); have n1_ := Aside0.mk (Kd.R_after (ok := (fun k_ => some k_ ≠ (.slice Ao12 y108.length co12 : Value).ownBlock ∧ some k_ ≠ (u121000 : Value).ownBlock ∧ some k_ ≠ (u121001 : Value).ownBlock ∧ some k_ ≠ (.slice Ao36 y117.length co36 : Value).ownBlock ∧ k_ ≠ gb113 ∧ k_ ≠ gb120 ∧ k_ ≠ gb133)) (ru (R_mono HO_112003.out (fun _ hk => ⟨⟨hk.1.1.1, ⟨hk.1.1.2.1, ⟨hk.1.1.2.2.1, ⟨hk.1.1.2.2.2.1, ⟨hk.1.1.2.2.2.2.1, ⟨hk.1.1.2.2.2.2.2, hk.1.2⟩⟩⟩⟩⟩⟩, hk.2⟩))) hg hat); have n2_ := Aside0.mk (Kd.S_after (ok := (fun k_ => some k_ ≠ (.slice Ao12 y108.length co12 : Value).ownBlock ∧ some k_ ≠ (.slice Ao36 y117.length co36 : Value).ownBlock)) (su HO_121000.out) hg hat); have n3_ := Aside0.mk (Kd.S_after (ok := (fun k_ => some k_ ≠ (.slice Ao12 y108.length co12 : Value).ownBlock ∧ some k_ ≠ (.slice Ao36 y117.length co36 : Value).ownBlock ∧ k_ ≠ gb133)) (su (S_mono HO_121001.out (fun _ hk => ⟨⟨hk.1.1.1, ⟨hk.1.1.2, hk.1.2⟩⟩, hk.2⟩))) hg hat); have n4_ := Aside0.mk (Kd.R_after (ok := (fun k_ => some k_ ≠ (.slice Ao12 y108.length co12 : Value).ownBlock)) (ru HO_121004.out) hg hat); have n5_ := Aside0.mk (blk_grown (bu BK103.out) hg (Kd.R_ne HO136.out BK103.out (by decide))); have n6_ := Aside0.mk (blk_grown (bu BK104.out) hg (Kd.R_ne HO136.out BK104.out (by decide))); have n7_ := Aside0.mk (blk_grown (bu BK111.out) hg (Kd.R_ne HO136.out BK111.out (by decide))); have n8_ := Aside0.mk (blk_grown (bu BK113.out) hg (Kd.R_ne HO136.out BK113.out (by decide))); have n9_ := Aside0.mk (blk_grown (bu BK120.out) hg (Kd.R_ne HO136.out BK120.out (by decide))); have n10_ := Aside0.mk (blk_grown (bu BK133.out) hg (Kd.R_ne HO136.out BK133.out (by decide))); have n11_ := Aside0.mk (hb); have n12_ := Aside0.mk (ho); clear HO_112002; clear HO_112003; clear HO_121000; clear HO_121001; clear HO_121004; clear BK103; clear BK104; clear BK111; clear BK113; clear BK120; clear BK133; clear HB; clear HO136; have HO_112002 := n0_; have HO_112003 := n1_; have HO_121000 := n2_; have HO_121001 := n3_; have HO_121004 := n4_; have BK103 := n5_; have BK104 := n6_; have BK111 := n7_; have BK113 := n8_; have BK120 := n9_; have BK133 := n10_; have HB := n11_; have HO139 := n12_; clear n0_ n1_ n2_ n3_ n4_ n5_ n6_ n7_ n8_ n9_ n10_ n11_ n12_; clear ho hb hg hat; obtain ⟨Ao84, co84, eo84⟩ := Kd.R_slice HO139.out; subst eo84; have hcz85_0 : w83.cell? ⟨gb133, 0, none⟩ = some (.int .i64 ((rd_T64 ((rd_T52 l0_3 x4_1).f1) x8_3).f0)) := (blk_cell BK133.out 0).trans rfl; have hcz85_1 : w83.cell? ⟨gb133, 1, none⟩ = some (.int .i64 ((rd_T64 ((rd_T52 l0_3 x4_1).f1) x8_3).f1)) := (blk_cell BK133.out 1).trans rfl; have hcz85_2 : w83.cell? ⟨gb133, 2, none⟩ = some (.slice A132_2 ((rd_T64 ((rd_T52 l0_3 x4_1).f1) x8_3).f2).length c132_2) := (blk_cell BK133.out 2).trans rfl; have hcz85_3 : w83.cell? ⟨gb133, 3, none⟩ = some (.int .i64 ((rd_T64 ((rd_T52 l0_3 x4_1).f1) x8_3).f3)) := (blk_cell BK133.out 3).trans rfl; have hcz85_4 : w83.cell? ⟨gb133, 4, none⟩ = some (.int .i64 ((rd_T64 ((rd_T52 l0_3 x4_1).f1) x8_3).f4)) := (blk_cell BK133.out 4).trans rfl; have hfz85_0 := blk_frozen BK133.out 0; have hfz85_1 := blk_frozen BK133.out 1; have hfz85_2 := blk_frozen BK133.out 2; have hfz85_3 := blk_frozen BK133.out 3; have hfz85_4 := blk_frozen BK133.out 4) | ((with_reducible refine gate_store (t := 22) (p := 87) rfl ?_); refine store_event (t := 22) (p := 87) (v := ?vo_w86) (w1 := (w83.setCell ⟨gb133, 2, none⟩ (.slice Ao84 y137.length co84))) ?hg ?ho ?hn ?hr ?_; (case ho => rfl); (case hg => rfl); (case hn => rfl); (case hr => first | (go_simp; done) | (go_simp; rfl)); intro w86 hw; have n0_ : Aside0 (Kd.R (Kd.int .i64) 3 w86 w.heap.size (fun k_ => some k_ ≠ (.slice Ao36 y117.length co36 : Value).ownBlock ∧ some k_ ≠ (.slice Ao84 y137.length co84 : Value).ownBlock) (.slice Ao12 y108.length co12) y108) := ⟨(by rw [hw]; exact (ru (R_mono (Kd.R_far (p := ⟨gb133, 2, none⟩) (Kd.R_types HO_112002.out BK133.out (by decide)) (fun _ hk => hk.2) (.slice Ao84 y137.length co84)) (fun _ hk => ⟨hk.1.1, hk.1.2⟩))))⟩; have n1_ : Aside0 (Kd.R k52 52 w86 w.heap.size (fun k_ => some k_ ≠ (.slice Ao12 y108.length co12 : Value).ownBlock ∧ some k_ ≠ (u121000 : Value).ownBlock ∧ some k_ ≠ (u121001 : Value).ownBlock ∧ some k_ ≠ (.slice Ao36 y117.length co36 : Value).ownBlock ∧ some k_ ≠ (.slice Ao84 y137.length co84 : Value).ownBlock ∧ k_ ≠ gb113 ∧ k_ ≠ gb120 ∧ k_ ≠ gb133) u112003 x112003_1) := ⟨(by rw [hw]; exact (ru (R_mono (Kd.R_far (p := ⟨gb133, 2, none⟩) (R_mono HO_112003.out (fun k_ hk => (⟨hk, hk.1.2.2.2.2.2.2⟩ : _ ∧ k_ ≠ gb133))) (fun _ hk => hk.2) (.slice Ao84 y137.length co84)) (fun _ hk => ⟨hk.1.1.1, ⟨hk.1.1.2.1, ⟨hk.1.1.2.2.1, ⟨hk.1.1.2.2.2.1, ⟨hk.1.2, ⟨hk.1.1.2.2.2.2.1, ⟨hk.1.1.2.2.2.2.2.1, hk.1.1.2.2.2.2.2.2⟩⟩⟩⟩⟩⟩⟩))))⟩; have n2_ : Aside0 (Kd.S k62 62 w86 w.heap.size (fun k_ => some k_ ≠ (.slice Ao12 y108.length co12 : Value).ownBlock ∧ some k_ ≠ (.slice Ao36 y117.length co36 : Value).ownBlock ∧ some k_ ≠ (.slice Ao84 y137.length co84 : Value).ownBlock) u121000 x121000_2) := ⟨(by rw [hw]; exact (su (S_mono (Kd.S_far (p := ⟨gb133, 2, none⟩) (Kd.S_types HO_121000.out BK133.out (by decide)) (fun _ hk => hk.2) (.slice Ao84 y137.length co84)) (fun _ hk => ⟨hk.1.1.1, ⟨hk.1.1.2, hk.1.2⟩⟩))))⟩; have n3_ : Aside0 (Kd.S k64 64 w86 w.heap.size (fun k_ => some k_ ≠ (.slice Ao12 y108.length co12 : Value).ownBlock ∧ some k_ ≠ (.slice Ao36 y117.length co36 : Value).ownBlock ∧ some k_ ≠ (.slice Ao84 y137.length co84 : Value).ownBlock ∧ k_ ≠ gb133) u121001 x121001_3) := ⟨(by rw [hw]; exact (su (S_mono (Kd.S_far (p := ⟨gb133, 2, none⟩) (S_mono HO_121001.out (fun k_ hk => (⟨hk, hk.1.2.2⟩ : _ ∧ k_ ≠ gb133))) (fun _ hk => hk.2) (.slice Ao84 y137.length co84)) (fun _ hk => ⟨hk.1.1.1, ⟨hk.1.1.2.1, ⟨hk.1.2, hk.1.1.2.2⟩⟩⟩))))⟩; have n4_ : Aside0 (Kd.R (Kd.int .i64) 3 w86 w.heap.size (fun k_ => some k_ ≠ (.slice Ao12 y108.length co12 : Value).ownBlock ∧ some k_ ≠ (.slice Ao84 y137.length co84 : Value).ownBlock) (.slice Ao36 y117.length co36) y117) := ⟨(by rw [hw]; exact (ru (R_mono (Kd.R_far (p := ⟨gb133, 2, none⟩) (Kd.R_types HO_121004.out BK133.out (by decide)) (fun _ hk => hk.2) (.slice Ao84 y137.length co84)) (fun _ hk => ⟨hk.1.1, hk.1.2⟩))))⟩; have n5_ : Aside0 (Kd.R (Kd.int .i64) 3 w86 w.heap.size (fun k_ => some k_ ≠ (.slice Ao12 y108.length co12 : Value).ownBlock ∧ some k_ ≠ (.slice Ao36 y117.length co36 : Value).ownBlock) (.slice Ao84 y137.length co84) y137) := ⟨(by rw [hw]; exact (ru (R_mono (Kd.R_far (p := ⟨gb133, 2, none⟩) (Kd.R_types HO139.out BK133.out (by decide)) (fun _ hk => hk.2) (.slice Ao84 y137.length co84)) (fun _ hk => ⟨hk.1.1, hk.1.2⟩))))⟩; have n6_ : Aside0 (w86.heap[gb103]? = some (.cells #[.int .i64 a0_0, .int .i64 a0_1, .slice A0_2 l0_2.length c0_2, .slice (some ad112) l0_3.length c0_3] 25 (0, 0))) := ⟨(by rw [hw]; exact (by (with_reducible repeat (first | refine blk_drewN ?_ _ | refine blk_drew ?_ | refine blk_alloc ?_ _)); refine blk_far ?_ NB103_133.out _; (with_reducible repeat (first | refine blk_drewN ?_ _ | refine blk_drew ?_ | refine blk_alloc ?_ _)); exact BK103.out))⟩; have n7_ : Aside0 (w86.heap[gb104]? = some (.cells #[.int .i64 0, .int .i64 0, .slice none 0 0, .slice none 0 0] 25 (0, 0))) := ⟨(by rw [hw]; exact (by (with_reducible repeat (first | refine blk_drewN ?_ _ | refine blk_drew ?_ | refine blk_alloc ?_ _)); refine blk_far ?_ NB104_133.out _; (with_reducible repeat (first | refine blk_drewN ?_ _ | refine blk_drew ?_ | refine blk_alloc ?_ _)); exact BK104.out))⟩; have n8_ : Aside0 (w86.heap[gb111]? = some (.cells #[.int .i64 a0_0, .int .i64 a0_1, .slice Ao12 y108.length co12, u112003] 25 (0, 0))) := ⟨(by rw [hw]; exact (by (with_reducible repeat (first | refine blk_drewN ?_ _ | refine blk_drew ?_ | refine blk_alloc ?_ _)); refine blk_far ?_ NB111_133.out _; (with_reducible repeat (first | refine blk_drewN ?_ _ | refine blk_drew ?_ | refine blk_alloc ?_ _)); exact BK111.out))⟩; have n9_ : Aside0 (w86.heap[gb113]? = some (.cells #[.slice A112_0 ((rd_T52 l0_3 x4_1).f0).length c112_0, .slice (some ad132) ((rd_T52 l0_3 x4_1).f1).length c112_1, .int .i64 ((rd_T52 l0_3 x4_1).f2.f0), .int .i64 ((rd_T52 l0_3 x4_1).f2.f1), .slice A112_4 ((rd_T52 l0_3 x4_1).f2.f2).length c112_4] 52 (0, 0))) := ⟨(by rw [hw]; exact (by (with_reducible repeat (first | refine blk_drewN ?_ _ | refine blk_drew ?_ | refine blk_alloc ?_ _)); refine blk_far ?_ NB113_133.out _; (with_reducible repeat (first | refine blk_drewN ?_ _ | refine blk_drew ?_ | refine blk_alloc ?_ _)); exact BK113.out))⟩; have n10_ : Aside0 (w86.heap[gb120]? = some (.cells #[u121000, u121001, .int .i64 ((rd_T52 l0_3 x4_1).f2.f0), .int .i64 ((rd_T52 l0_3 x4_1).f2.f1), .slice Ao36 y117.length co36] 52 (0, 0))) := ⟨(by rw [hw]; exact (by (with_reducible repeat (first | refine blk_drewN ?_ _ | refine blk_drew ?_ | refine blk_alloc ?_ _)); refine blk_far ?_ NB120_133.out _; (with_reducible repeat (first | refine blk_drewN ?_ _ | refine blk_drew ?_ | refine blk_alloc ?_ _)); exact BK120.out))⟩; have n11_ : Aside0 (w86.heap[gb133]? = some (.cells #[.int .i64 ((rd_T64 ((rd_T52 l0_3 x4_1).f1) x8_3).f0), .int .i64 ((rd_T64 ((rd_T52 l0_3 x4_1).f1) x8_3).f1), .slice Ao84 y137.length co84, .int .i64 ((rd_T64 ((rd_T52 l0_3 x4_1).f1) x8_3).f3), .int .i64 ((rd_T64 ((rd_T52 l0_3 x4_1).f1) x8_3).f4)] 64 (0, 0))) := ⟨(by rw [hw]; exact (by (with_reducible repeat (first | refine blk_drewN ?_ _ | refine blk_drew ?_ | refine blk_alloc ?_ _)); refine blk_put (cs := #[.int .i64 ((rd_T64 ((rd_T52 l0_3 x4_1).f1) x8_3).f0), .int .i64 ((rd_T64 ((rd_T52 l0_3 x4_1).f1) x8_3).f1), .slice A132_2 ((rd_T64 ((rd_T52 l0_3 x4_1).f1) x8_3).f2).length c132_2, .int .i64 ((rd_T64 ((rd_T52 l0_3 x4_1).f1) x8_3).f3), .int .i64 ((rd_T64 ((rd_T52 l0_3 x4_1).f1) x8_3).f4)]) ?_ 2 _ rfl; (with_reducible repeat (first | refine blk_drewN ?_ _ | refine blk_drew ?_ | refine blk_alloc ?_ _)); exact BK133.out))⟩; have n12_ : Aside0 (Below w.heap.size w w86) := ⟨(by rw [hw]; exact (by repeat with_reducible first | exact HB.out | apply below_alloc | apply pw_below_drewN | apply below_drew1 | refine below_set ?_ GE103.out | refine below_set ?_ GE104.out | refine below_set ?_ GE111.out | refine below_set ?_ GE113.out | refine below_set ?_ GE120.out | refine below_set ?_ GE133.out))⟩; clear hw; clear HO_112002; clear HO_112003; clear HO_121000; clear HO_121001; clear HO_121004; clear HO139; clear BK103; clear BK104; clear BK111; clear BK113; clear BK120; clear BK133; clear HB; have HO_112002 := n0_; have HO_112003 := n1_; have HO_121000 := n2_; have HO_121001 := n3_; have HO_121004 := n4_; have HO139 := n5_; have BK103 := n6_; have BK104 := n7_; have BK111 := n8_; have BK113 := n9_; have BK120 := n10_; have BK133 := n11_; have HB := n12_; clear n0_ n1_ n2_ n3_ n4_ n5_ n6_ n7_ n8_ n9_ n10_ n11_ n12_; have hnb87 := NB120_103.out; have hnc87 := NB103_120.out; have hnb88 := NB120_104.out; have hnc88 := NB104_120.out; have hnb89 := NB120_111.out; have hnc89 := NB111_120.out; have hcz90_0 : w86.cell? ⟨gb120, 0, none⟩ = some (u121000) := (blk_cell BK120.out 0).trans rfl; have hcz90_1 : w86.cell? ⟨gb120, 1, none⟩ = some (u121001) := (blk_cell BK120.out 1).trans rfl; have hcz90_2 : w86.cell? ⟨gb120, 2, none⟩ = some (.int .i64 ((rd_T52 l0_3 x4_1).f2.f0)) := (blk_cell BK120.out 2).trans rfl; have hcz90_3 : w86.cell? ⟨gb120, 3, none⟩ = some (.int .i64 ((rd_T52 l0_3 x4_1).f2.f1)) := (blk_cell BK120.out 3).trans rfl; have hcz90_4 : w86.cell? ⟨gb120, 4, none⟩ = some (.slice Ao36 y117.length co36) := (blk_cell BK120.out 4).trans rfl; have hfz90_0 := blk_frozen BK120.out 0; have hfz90_1 := blk_frozen BK120.out 1; have hfz90_2 := blk_frozen BK120.out 2; have hfz90_3 := blk_frozen BK120.out 3; have hfz90_4 := blk_frozen BK120.out 4; have hcz91_0 : w86.cell? ⟨gb133, 0, none⟩ = some (.int .i64 ((rd_T64 ((rd_T52 l0_3 x4_1).f1) x8_3).f0)) := (blk_cell BK133.out 0).trans rfl; have hcz91_1 : w86.cell? ⟨gb133, 1, none⟩ = some (.int .i64 ((rd_T64 ((rd_T52 l0_3 x4_1).f1) x8_3).f1)) := (blk_cell BK133.out 1).trans rfl; have hcz91_2 : w86.cell? ⟨gb133, 2, none⟩ = some (.slice Ao84 y137.length co84) := (blk_cell BK133.out 2).trans rfl; have hcz91_3 : w86.cell? ⟨gb133, 3, none⟩ = some (.int .i64 ((rd_T64 ((rd_T52 l0_3 x4_1).f1) x8_3).f3)) := (blk_cell BK133.out 3).trans rfl; have hcz91_4 : w86.cell? ⟨gb133, 4, none⟩ = some (.int .i64 ((rd_T64 ((rd_T52 l0_3 x4_1).f1) x8_3).f4)) := (blk_cell BK133.out 4).trans rfl; have hfz91_0 := blk_frozen BK133.out 0; have hfz91_1 := blk_frozen BK133.out 1; have hfz91_2 := blk_frozen BK133.out 2; have hfz91_3 := blk_frozen BK133.out 3; have hfz91_4 := blk_frozen BK133.out 4) | ((with_reducible refine gate_builtin (b := .append) (xs := #[.tmp 89, .tmp 91]) rfl ?_); at_builtin; refine Kd.S_append k64 (w0 := w) w.heap.size rfl (.tmp 89) (.tmp 91) 50 64 (.agg #[(.int .i64 0), (.int .i64 0), (.slice none 0 0), (.int .i64 0), (.int .i64 0)]) 56 rfl Try.underlying50 info64 rfl (by decide) (by omega) u121001 x121001_3 (⟨(rd_T64 ((rd_T52 l0_3 x4_1).f1) x8_3).f0, (rd_T64 ((rd_T52 l0_3 x4_1).f1) x8_3).f1, y137, (rd_T64 ((rd_T52 l0_3 x4_1).f1) x8_3).f3, (rd_T64 ((rd_T52 l0_3 x4_1).f1) x8_3).f4⟩ : S64) [.int .i64 ((rd_T64 ((rd_T52 l0_3 x4_1).f1) x8_3).f0), .int .i64 ((rd_T64 ((rd_T52 l0_3 x4_1).f1) x8_3).f1), .slice Ao84 y137.length co84, .int .i64 ((rd_T64 ((rd_T52 l0_3 x4_1).f1) x8_3).f3), .int .i64 ((rd_T64 ((rd_T52 l0_3 x4_1).f1) x8_3).f4)] (fun k_ => some k_ ≠ (.slice Ao12 y108.length co12 : Value).ownBlock ∧ some k_ ≠ (.slice Ao36 y117.length co36 : Value).ownBlock ∧ k_ ≠ gb133) (fun k_ => some k_ = (.slice Ao84 y137.length co84 : Value).ownBlock) rfl rfl ?aP (fun k_ hk_ => ((R_mono (ok' := fun k_ => ((fun k_ => some k_ ≠ (.slice Ao12 y108.length co12 : Value).ownBlock ∧ some k_ ≠ (.slice Ao36 y117.length co36 : Value).ownBlock ∧ k_ ≠ gb133)) k_ ∧ some k_ ≠ (u121001 : Value).ownBlock) (Kd.R_types (Kd.R_apart' (HO139.out) (Kd.S_typed HO_121001.out) (by decide)) BK133.out (by decide)) (fun k_ hk => ⟨⟨hk.1.1.1, ⟨hk.1.1.2, hk.2⟩⟩, hk.1.2⟩))).1 k_ hk_.symm) ?aF ?aO ?aB ?aS ?aL ?_; (case aP => exact k64_mkM _ _ _ (⟨(rd_T64 ((rd_T52 l0_3 x4_1).f1) x8_3).f0, (rd_T64 ((rd_T52 l0_3 x4_1).f1) x8_3).f1, y137, (rd_T64 ((rd_T52 l0_3 x4_1).f1) x8_3).f3, (rd_T64 ((rd_T52 l0_3 x4_1).f1) x8_3).f4⟩ : S64) (R_mono (Kd.R_tight rfl (R_mono (ok' := fun k_ => ((fun k_ => some k_ ≠ (.slice Ao12 y108.length co12 : Value).ownBlock ∧ some k_ ≠ (.slice Ao36 y117.length co36 : Value).ownBlock ∧ k_ ≠ gb133)) k_ ∧ some k_ ≠ (u121001 : Value).ownBlock) (Kd.R_types (Kd.R_apart' (HO139.out) (Kd.S_typed HO_121001.out) (by decide)) BK133.out (by decide)) (fun k_ hk => ⟨⟨hk.1.1.1, ⟨hk.1.1.2, hk.2⟩⟩, hk.1.2⟩))) (fun _ h_ => h_))); (case aB => exact (by repeat with_reducible first | exact HB.out | apply below_alloc | apply pw_below_drewN | apply below_drew1 | refine below_set ?_ GE103.out | refine below_set ?_ GE104.out | refine below_set ?_ GE111.out | refine below_set ?_ GE113.out | refine below_set ?_ GE120.out | refine below_set ?_ GE133.out)); (case aF => exact (fun k_ hk => ⟨Kd.fresh' (R_lt (ru HO_112002.out)) k_ hk, Kd.fresh' (R_lt (ru HO_121004.out)) k_ hk, Kd.freshB (bu BK133.out) k_ hk⟩)); (case aO => exact (su (S_mono HO_121001.out (fun k_ hk => ⟨⟨hk.1, ⟨hk.2.1, hk.2.2.2⟩⟩, fun e_ => hk.2.2.1 e_⟩)))); (case aS => exact (below_size (by repeat with_reducible first | exact HB.out | apply below_alloc | apply pw_below_drewN | apply below_drew1 | refine below_set ?_ GE103.out | refine below_set ?_ GE104.out | refine below_set ?_ GE111.out | refine below_set ?_ GE113.out | refine below_set ?_ GE120.out | refine below_set ?_ GE133.out))); (case aL => have := LMc67.out; omega); intro v141 w92 ho hb hg hat; rw [← Ny140.out] at ho; have n0_ := Aside0.mk (Kd.R_over' (ru HO_112002.out) (Kd.S_typed (su HO_121001.out)) (by decide) hg); have n1_ := Aside0.mk (Kd.R_after (ok := (fun k_ => some k_ ≠ (.slice Ao12 y108.length co12 : Value).ownBlock ∧ some k_ ≠ (u121000 : Value).ownBlock ∧ some k_ ≠ (.slice Ao36 y117.length co36 : Value).ownBlock ∧ some k_ ≠ (.slice Ao84 y137.length co84 : Value).ownBlock ∧ k_ ≠ gb113 ∧ k_ ≠ gb120 ∧ k_ ≠ gb133)) (ru (R_mono HO_112003.out (fun _ hk => ⟨⟨hk.1, ⟨hk.2.1, ⟨hk.2.2.2.1, ⟨hk.2.2.2.2.1, ⟨hk.2.2.2.2.2.1, ⟨hk.2.2.2.2.2.2.1, hk.2.2.2.2.2.2.2⟩⟩⟩⟩⟩⟩, hk.2.2.1⟩))) hg hat); have n2_ := Aside0.mk (Kd.S_over' (su HO_121000.out) (Kd.S_typed (su HO_121001.out)) (by decide) hg); have n3_ := Aside0.mk (Kd.R_over' (ru HO_121004.out) (Kd.S_typed (su HO_121001.out)) (by decide) hg); have n4_ := Aside0.mk (blk_grown (bu BK103.out) hg (Kd.S_ne HO_121001.out BK103.out (by decide))); have n5_ := Aside0.mk (blk_grown (bu BK104.out) hg (Kd.S_ne HO_121001.out BK104.out (by decide))); have n6_ := Aside0.mk (blk_grown (bu BK111.out) hg (Kd.S_ne HO_121001.out BK111.out (by decide))); have n7_ := Aside0.mk (blk_grown (bu BK113.out) hg (Kd.S_ne HO_121001.out BK113.out (by decide))); have n8_ := Aside0.mk (blk_grown (bu BK120.out) hg (Kd.S_ne HO_121001.out BK120.out (by decide))); have n9_ := Aside0.mk (blk_grown (bu BK133.out) hg (Kd.S_away HO_121001.out (fun _ hk => hk.2.2.2))); have n10_ := Aside0.mk (hb); have n11_ := Aside0.mk (ho); clear HO_112002; clear HO_112003; clear HO_121000; clear HO_121004; clear BK103; clear BK104; clear BK111; clear BK113; clear BK120; clear BK133; clear HB; clear HO_121001; clear HO139; have HO_112002 := n0_; have HO_112003 := n1_; have HO_121000 := n2_; have HO_121004 := n3_; have BK103 := n4_; have BK104 := n5_; have BK111 := n6_; have BK113 := n7_; have BK120 := n8_; have BK133 := n9_; have HB := n10_; have HO142 := n11_; clear n0_ n1_ n2_ n3_ n4_ n5_ n6_ n7_ n8_ n9_ n10_ n11_; clear ho hb hg hat; obtain ⟨Ao93, co93, eo93⟩ := Kd.S_slice HO142.out; subst eo93; have hcz94_0 : w92.cell? ⟨gb120, 0, none⟩ = some (u121000) := (blk_cell BK120.out 0).trans rfl; have hcz94_1 : w92.cell? ⟨gb120, 1, none⟩ = some (u121001) := (blk_cell BK120.out 1).trans rfl; have hcz94_2 : w92.cell? ⟨gb120, 2, none⟩ = some (.int .i64 ((rd_T52 l0_3 x4_1).f2.f0)) := (blk_cell BK120.out 2).trans rfl; have hcz94_3 : w92.cell? ⟨gb120, 3, none⟩ = some (.int .i64 ((rd_T52 l0_3 x4_1).f2.f1)) := (blk_cell BK120.out 3).trans rfl; have hcz94_4 : w92.cell? ⟨gb120, 4, none⟩ = some (.slice Ao36 y117.length co36) := (blk_cell BK120.out 4).trans rfl; have hfz94_0 := blk_frozen BK120.out 0; have hfz94_1 := blk_frozen BK120.out 1; have hfz94_2 := blk_frozen BK120.out 2; have hfz94_3 := blk_frozen BK120.out 3; have hfz94_4 := blk_frozen BK120.out 4))
      go_roundg k3
      case measure => have := HK1.out; have := HK2.out; have := HK3.out; omega
      case rel => exact ⟨(wrap64 (x8_3 + 1)), (y140), (.slice Ao93 y140.length co93), (by first | rfl | (simp; done) | (simp [*]; done)), H', ⟨by have := HK1.out; have := HK2.out; have := HK3.out; omega⟩, ⟨ru (R_mono (Kd.R_far (p := ⟨gb120, 1, none⟩) (Kd.R_types HO_112002.out BK120.out (by decide)) (fun _ hk => hk.2) (.slice Ao93 y140.length co93)) (fun _ hk => hk.1.1))⟩, ⟨ru (R_mono (Kd.R_far (p := ⟨gb120, 1, none⟩) (R_mono HO_112003.out (fun k_ hk => (⟨hk, hk.1.2.2.2.2.2.1⟩ : _ ∧ k_ ≠ gb120))) (fun _ hk => hk.2) (.slice Ao93 y140.length co93)) (fun _ hk => ⟨hk.1.1.1, ⟨hk.1.1.2.1, ⟨hk.1.2, ⟨hk.1.1.2.2.1, ⟨hk.1.1.2.2.2.2.1, hk.1.1.2.2.2.2.2.1⟩⟩⟩⟩⟩))⟩, ⟨su (S_mono (Kd.S_far (p := ⟨gb120, 1, none⟩) (Kd.S_types HO_121000.out BK120.out (by decide)) (fun _ hk => hk.2) (.slice Ao93 y140.length co93)) (fun _ hk => ⟨hk.1.1, hk.1.2.1⟩))⟩, ⟨su (S_mono (Kd.S_far (p := ⟨gb120, 1, none⟩) (Kd.S_types HO142.out BK120.out (by decide)) (fun _ hk => hk.2) (.slice Ao93 y140.length co93)) (fun _ hk => ⟨hk.1.1, hk.1.2.1⟩))⟩, ⟨ru (R_mono (Kd.R_far (p := ⟨gb120, 1, none⟩) (Kd.R_types HO_121004.out BK120.out (by decide)) (fun _ hk => hk.2) (.slice Ao93 y140.length co93)) (fun _ hk => hk.1.1))⟩, ⟨by (with_reducible repeat (first | refine blk_drewN ?_ _ | refine blk_drew ?_ | refine blk_alloc ?_ _)); refine blk_far ?_ NB103_120.out _; (with_reducible repeat (first | refine blk_drewN ?_ _ | refine blk_drew ?_ | refine blk_alloc ?_ _)); exact BK103.out⟩, ⟨by (with_reducible repeat (first | refine blk_drewN ?_ _ | refine blk_drew ?_ | refine blk_alloc ?_ _)); refine blk_far ?_ NB104_120.out _; (with_reducible repeat (first | refine blk_drewN ?_ _ | refine blk_drew ?_ | refine blk_alloc ?_ _)); exact BK104.out⟩, ⟨by (with_reducible repeat (first | refine blk_drewN ?_ _ | refine blk_drew ?_ | refine blk_alloc ?_ _)); refine blk_far ?_ NB111_120.out _; (with_reducible repeat (first | refine blk_drewN ?_ _ | refine blk_drew ?_ | refine blk_alloc ?_ _)); exact BK111.out⟩, ⟨by (with_reducible repeat (first | refine blk_drewN ?_ _ | refine blk_drew ?_ | refine blk_alloc ?_ _)); refine blk_far ?_ NB113_120.out _; (with_reducible repeat (first | refine blk_drewN ?_ _ | refine blk_drew ?_ | refine blk_alloc ?_ _)); exact BK113.out⟩, ⟨by (with_reducible repeat (first | refine blk_drewN ?_ _ | refine blk_drew ?_ | refine blk_alloc ?_ _)); refine blk_put (cs := #[u121000, u121001, .int .i64 ((rd_T52 l0_3 x4_1).f2.f0), .int .i64 ((rd_T52 l0_3 x4_1).f2.f1), .slice Ao36 y117.length co36]) ?_ 1 _ rfl; (with_reducible repeat (first | refine blk_drewN ?_ _ | refine blk_drew ?_ | refine blk_alloc ?_ _)); exact BK120.out⟩, ⟨by repeat (first | (with_reducible first | exact HB.out | apply below_alloc | apply pw_below_drewN | apply below_drew1 | refine below_set ?_ GE103.out | refine below_set ?_ GE104.out | refine below_set ?_ GE111.out | refine below_set ?_ GE113.out | refine below_set ?_ GE120.out | refine below_set ?_ GE133.out) | exact HB.out)⟩⟩
    rw [if_neg c64] at H
    have c64b0 : decide (x8_3 < (((rd_T52 l0_3 x4_1).f1).length : Int)) = false := decide_eq_false c64
    clear c64
    by_cases c95 : x112003_1.length < 1599289640401
    rotate_left
    · rw [if_neg c95] at H
      exact absurd H (by simp)
    rw [if_pos c95] at H
    have LMc95 := Aside0.mk c95
    clear c95
    obtain ⟨y143, hy143⟩ : ∃ y_ : List (S52), y_ = (x112003_1 ++ [(⟨x121000_2, x121001_3, (⟨((rd_T52 l0_3 x4_1).f2.f0), ((rd_T52 l0_3 x4_1).f2.f1), y117⟩ : S47)⟩ : S52)]) := ⟨_, rfl⟩
    replace H : (fettleref02_CopyFunc.l0 k3 (wrap64 (x4_1 + 1)) a0_0 a0_1 l0_2 l0_3 a0_0 a0_1 y108 y143) = some (r1, r2, r3, r4) := by first | (rw [hy143]; with_reducible exact H) | (have H2_ := (Option.bind_some _ _).symm.trans H; rw [hy143]; with_reducible exact H2_) | exact H
    have Ny143 := Aside0.mk hy143
    clear hy143
    have H' := Aside0.mk H
    clear H
    have hnb96 := NB113_103.out
    have hnc96 := NB103_113.out
    have hnb97 := NB113_104.out
    have hnc97 := NB104_113.out
    have hnb98 := NB113_111.out
    have hnc98 := NB111_113.out
    have hnb99 := NB113_120.out
    have hnc99 := NB120_113.out
    have hcz100_0 : wr.cell? ⟨gb113, 0, none⟩ = some (.slice A112_0 ((rd_T52 l0_3 x4_1).f0).length c112_0) := (blk_cell BK113.out 0).trans rfl
    have hcz100_1 : wr.cell? ⟨gb113, 1, none⟩ = some (.slice A112_1 ((rd_T52 l0_3 x4_1).f1).length c112_1) := (blk_cell BK113.out 1).trans rfl
    have hcz100_2 : wr.cell? ⟨gb113, 2, none⟩ = some (.int .i64 ((rd_T52 l0_3 x4_1).f2.f0)) := (blk_cell BK113.out 2).trans rfl
    have hcz100_3 : wr.cell? ⟨gb113, 3, none⟩ = some (.int .i64 ((rd_T52 l0_3 x4_1).f2.f1)) := (blk_cell BK113.out 3).trans rfl
    have hcz100_4 : wr.cell? ⟨gb113, 4, none⟩ = some (.slice A112_4 ((rd_T52 l0_3 x4_1).f2.f2).length c112_4) := (blk_cell BK113.out 4).trans rfl
    have hfz100_0 := blk_frozen BK113.out 0
    have hfz100_1 := blk_frozen BK113.out 1
    have hfz100_2 := blk_frozen BK113.out 2
    have hfz100_3 := blk_frozen BK113.out 3
    have hfz100_4 := blk_frozen BK113.out 4
    have hnb101 := NB111_103.out
    have hnc101 := NB103_111.out
    have hnb102 := NB111_104.out
    have hnc102 := NB104_111.out
    have hnb103 := NB111_120.out
    have hnc103 := NB120_111.out
    have hcz104_0 : wr.cell? ⟨gb111, 0, none⟩ = some (.int .i64 a0_0) := (blk_cell BK111.out 0).trans rfl
    have hcz104_1 : wr.cell? ⟨gb111, 1, none⟩ = some (.int .i64 a0_1) := (blk_cell BK111.out 1).trans rfl
    have hcz104_2 : wr.cell? ⟨gb111, 2, none⟩ = some (.slice Ao12 y108.length co12) := (blk_cell BK111.out 2).trans rfl
    have hcz104_3 : wr.cell? ⟨gb111, 3, none⟩ = some (u112003) := (blk_cell BK111.out 3).trans rfl
    have hfz104_0 := blk_frozen BK111.out 0
    have hfz104_1 := blk_frozen BK111.out 1
    have hfz104_2 := blk_frozen BK111.out 2
    have hfz104_3 := blk_frozen BK111.out 3
    have hnb105 := NB120_103.out
    have hnc105 := NB103_120.out
    have hnb106 := NB120_104.out
    have hnc106 := NB104_120.out
    have hcz107_0 : wr.cell? ⟨gb120, 0, none⟩ = some (u121000) := (blk_cell BK120.out 0).trans rfl
    have hcz107_1 : wr.cell? ⟨gb120, 1, none⟩ = some (u121001) := (blk_cell BK120.out 1).trans rfl
    have hcz107_2 : wr.cell? ⟨gb120, 2, none⟩ = some (.int .i64 ((rd_T52 l0_3 x4_1).f2.f0)) := (blk_cell BK120.out 2).trans rfl
    have hcz107_3 : wr.cell? ⟨gb120, 3, none⟩ = some (.int .i64 ((rd_T52 l0_3 x4_1).f2.f1)) := (blk_cell BK120.out 3).trans rfl
    have hcz107_4 : wr.cell? ⟨gb120, 4, none⟩ = some (.slice Ao36 y117.length co36) := (blk_cell BK120.out 4).trans rfl
    have hfz107_0 := blk_frozen BK120.out 0
    have hfz107_1 := blk_frozen BK120.out 1
    have hfz107_2 := blk_frozen BK120.out 2
    have hfz107_3 := blk_frozen BK120.out 3
    have hfz107_4 := blk_frozen BK120.out 4
    obtain ⟨Ao109, co109, eo109⟩ := Kd.S_slice HO_121000.out
    subst eo109
    obtain ⟨Ao110, co110, eo110⟩ := Kd.S_slice HO_121001.out
    subst eo110
    go_wp2_with (first | ((with_reducible refine gate_builtin (b := .append) (xs := #[.tmp 95, .tmp 97]) rfl ?_); at_builtin; refine Kd.R_append k52 (w0 := w) w.heap.size rfl (.tmp 95) (.tmp 97) 23 52 (.agg #[(.slice none 0 0), (.slice none 0 0), (.int .i64 0), (.int .i64 0), (.slice none 0 0)]) 88 rfl Try.underlying23 info52 rfl (by decide) (by omega) u112003 x112003_1 (⟨x121000_2, x121001_3, (⟨((rd_T52 l0_3 x4_1).f2.f0), ((rd_T52 l0_3 x4_1).f2.f1), y117⟩ : S47)⟩ : S52) [.slice Ao109 x121000_2.length co109, .slice Ao110 x121001_3.length co110, .int .i64 ((rd_T52 l0_3 x4_1).f2.f0), .int .i64 ((rd_T52 l0_3 x4_1).f2.f1), .slice Ao36 y117.length co36] (fun k_ => some k_ ≠ (.slice Ao12 y108.length co12 : Value).ownBlock ∧ k_ ≠ gb113 ∧ k_ ≠ gb120) (fun k_ => ((fun k_ => some k_ ≠ (.slice Ao12 y108.length co12 : Value).ownBlock ∧ k_ ≠ gb113 ∧ k_ ≠ gb120)) k_ ∧ some k_ ≠ (u112003 : Value).ownBlock) rfl rfl ?aP (fun _ hk => hk) ?aF ?aO ?aB ?aS ?aL ?_; (case aP => exact k52_mkM _ _ _ (⟨x121000_2, x121001_3, (⟨((rd_T52 l0_3 x4_1).f2.f0), ((rd_T52 l0_3 x4_1).f2.f1), y117⟩ : S47)⟩ : S52) (R_mono (Kd.R_types (Kd.R_types (Kd.R_apart' ((Kd.S_R HO_121000.out)) (Kd.R_typed HO_112003.out) (by decide)) BK113.out (by decide)) BK120.out (by decide)) (fun k_ hk => ⟨⟨hk.1.1.1.1, ⟨hk.1.2, hk.2⟩⟩, hk.1.1.2⟩)) (R_mono (Kd.R_types (Kd.R_types (Kd.R_apart' ((Kd.S_R HO_121001.out)) (Kd.R_typed HO_112003.out) (by decide)) BK113.out (by decide)) BK120.out (by decide)) (fun k_ hk => ⟨⟨hk.1.1.1.1, ⟨hk.1.2, hk.2⟩⟩, hk.1.1.2⟩)) (R_mono (Kd.R_types (Kd.R_types (Kd.R_apart' (HO_121004.out) (Kd.R_typed HO_112003.out) (by decide)) BK113.out (by decide)) BK120.out (by decide)) (fun k_ hk => ⟨⟨hk.1.1.1, ⟨hk.1.2, hk.2⟩⟩, hk.1.1.2⟩))); (case aB => exact (by repeat with_reducible first | exact HB.out | apply below_alloc | apply pw_below_drewN | apply below_drew1 | refine below_set ?_ GE103.out | refine below_set ?_ GE104.out | refine below_set ?_ GE111.out | refine below_set ?_ GE113.out | refine below_set ?_ GE120.out)); (case aF => exact (fun k_ hk => ⟨Kd.fresh' (R_lt (ru HO_112002.out)) k_ hk, Kd.freshB (bu BK113.out) k_ hk, Kd.freshB (bu BK120.out) k_ hk⟩)); (case aO => exact (ru (R_mono HO_112003.out (fun _ hk => ⟨hk.1, ⟨hk.2.2.2.2.1, hk.2.2.2.2.2⟩⟩)))); (case aS => exact (below_size (by repeat with_reducible first | exact HB.out | apply below_alloc | apply pw_below_drewN | apply below_drew1 | refine below_set ?_ GE103.out | refine below_set ?_ GE104.out | refine below_set ?_ GE111.out | refine below_set ?_ GE113.out | refine below_set ?_ GE120.out))); (case aL => have := LMc95.out; omega); intro v144 w108 ho hb hg hat; rw [← Ny143.out] at ho; have n0_ := Aside0.mk (Kd.R_over' (ru HO_112002.out) (Kd.R_typed (ru HO_112003.out)) (by decide) hg); have n1_ := Aside0.mk (blk_grown (bu BK103.out) hg (Kd.R_ne HO_112003.out BK103.out (by decide))); have n2_ := Aside0.mk (blk_grown (bu BK104.out) hg (Kd.R_ne HO_112003.out BK104.out (by decide))); have n3_ := Aside0.mk (blk_grown (bu BK111.out) hg (Kd.R_ne HO_112003.out BK111.out (by decide))); have n4_ := Aside0.mk (blk_grown (bu BK113.out) hg (Kd.R_away HO_112003.out (fun _ hk => hk.2.2.2.2.1))); have n5_ := Aside0.mk (blk_grown (bu BK120.out) hg (Kd.R_away HO_112003.out (fun _ hk => hk.2.2.2.2.2))); have n6_ := Aside0.mk (hb); have n7_ := Aside0.mk (ho); clear HO_112002; clear BK103; clear BK104; clear BK111; clear BK113; clear BK120; clear HB; clear HO_112003; clear HO_121000; clear HO_121001; clear HO_121004; have HO_112002 := n0_; have BK103 := n1_; have BK104 := n2_; have BK111 := n3_; have BK113 := n4_; have BK120 := n5_; have HB := n6_; have HO145 := n7_; clear n0_ n1_ n2_ n3_ n4_ n5_ n6_ n7_; clear ho hb hg hat; obtain ⟨Ao111, co111, eo111⟩ := Kd.R_slice HO145.out; subst eo111; have hcz112_0 : w108.cell? ⟨gb111, 0, none⟩ = some (.int .i64 a0_0) := (blk_cell BK111.out 0).trans rfl; have hcz112_1 : w108.cell? ⟨gb111, 1, none⟩ = some (.int .i64 a0_1) := (blk_cell BK111.out 1).trans rfl; have hcz112_2 : w108.cell? ⟨gb111, 2, none⟩ = some (.slice Ao12 y108.length co12) := (blk_cell BK111.out 2).trans rfl; have hcz112_3 : w108.cell? ⟨gb111, 3, none⟩ = some (u112003) := (blk_cell BK111.out 3).trans rfl; have hfz112_0 := blk_frozen BK111.out 0; have hfz112_1 := blk_frozen BK111.out 1; have hfz112_2 := blk_frozen BK111.out 2; have hfz112_3 := blk_frozen BK111.out 3))
    go_roundg k3
    case measure => have := HK1.out; have := HK2.out; have := HK3.out; omega
    case rel => exact ⟨(wrap64 (x4_1 + 1)), (y143), (.slice Ao111 y143.length co111), (by first | rfl | (simp; done) | (simp [*]; done)), H', ⟨by have := HK1.out; have := HK2.out; have := HK3.out; omega⟩, ⟨ru (R_mono (Kd.R_far (p := ⟨gb111, 3, none⟩) (Kd.R_types HO_112002.out BK111.out (by decide)) (fun _ hk => hk.2) (.slice Ao111 y143.length co111)) (fun _ hk => trivial))⟩, ⟨ru (R_mono (Kd.R_far (p := ⟨gb111, 3, none⟩) (Kd.R_types HO145.out BK111.out (by decide)) (fun _ hk => hk.2) (.slice Ao111 y143.length co111)) (fun _ hk => hk.1.1))⟩, ⟨by (with_reducible repeat (first | refine blk_drewN ?_ _ | refine blk_drew ?_ | refine blk_alloc ?_ _)); refine blk_far ?_ NB103_111.out _; (with_reducible repeat (first | refine blk_drewN ?_ _ | refine blk_drew ?_ | refine blk_alloc ?_ _)); exact BK103.out⟩, ⟨by (with_reducible repeat (first | refine blk_drewN ?_ _ | refine blk_drew ?_ | refine blk_alloc ?_ _)); refine blk_far ?_ NB104_111.out _; (with_reducible repeat (first | refine blk_drewN ?_ _ | refine blk_drew ?_ | refine blk_alloc ?_ _)); exact BK104.out⟩, ⟨by (with_reducible repeat (first | refine blk_drewN ?_ _ | refine blk_drew ?_ | refine blk_alloc ?_ _)); refine blk_put (cs := #[.int .i64 a0_0, .int .i64 a0_1, .slice Ao12 y108.length co12, u112003]) ?_ 3 _ rfl; (with_reducible repeat (first | refine blk_drewN ?_ _ | refine blk_drew ?_ | refine blk_alloc ?_ _)); exact BK111.out⟩, ⟨by repeat (first | (with_reducible first | exact HB.out | apply below_alloc | apply pw_below_drewN | apply below_drew1 | refine below_set ?_ GE103.out | refine below_set ?_ GE104.out | refine below_set ?_ GE111.out | refine below_set ?_ GE113.out | refine below_set ?_ GE120.out) | exact HB.out)⟩⟩
  rw [if_neg c17] at H
  have c17b0 : decide (x4_1 < (l0_3.length : Int)) = false := decide_eq_false c17
  clear c17
  simp only [Option.some.injEq, Prod.mk.injEq] at H
  obtain ⟨rfl, rfl, rfl, rfl⟩ := H
  have hnb113 := NB103_104.out
  have hnc113 := NB104_103.out
  have hnb114 := NB103_111.out
  have hnc114 := NB111_103.out
  have hcz115_0 : wr.cell? ⟨gb103, 0, none⟩ = some (.int .i64 a0_0) := (blk_cell BK103.out 0).trans rfl
  have hcz115_1 : wr.cell? ⟨gb103, 1, none⟩ = some (.int .i64 a0_1) := (blk_cell BK103.out 1).trans rfl
  have hcz115_2 : wr.cell? ⟨gb103, 2, none⟩ = some (.slice A0_2 l0_2.length c0_2) := (blk_cell BK103.out 2).trans rfl
  have hcz115_3 : wr.cell? ⟨gb103, 3, none⟩ = some (.slice A0_3 l0_3.length c0_3) := (blk_cell BK103.out 3).trans rfl
  have hfz115_0 := blk_frozen BK103.out 0
  have hfz115_1 := blk_frozen BK103.out 1
  have hfz115_2 := blk_frozen BK103.out 2
  have hfz115_3 := blk_frozen BK103.out 3
  have hnb116 := NB111_104.out
  have hnc116 := NB104_111.out
  have hcz117_0 : wr.cell? ⟨gb111, 0, none⟩ = some (.int .i64 a0_0) := (blk_cell BK111.out 0).trans rfl
  have hcz117_1 : wr.cell? ⟨gb111, 1, none⟩ = some (.int .i64 a0_1) := (blk_cell BK111.out 1).trans rfl
  have hcz117_2 : wr.cell? ⟨gb111, 2, none⟩ = some (.slice Ao12 y108.length co12) := (blk_cell BK111.out 2).trans rfl
  have hcz117_3 : wr.cell? ⟨gb111, 3, none⟩ = some (u112003) := (blk_cell BK111.out 3).trans rfl
  have hfz117_0 := blk_frozen BK111.out 0
  have hfz117_1 := blk_frozen BK111.out 1
  have hfz117_2 := blk_frozen BK111.out 2
  have hfz117_3 := blk_frozen BK111.out 3
  have hcz118_0 : wr.cell? ⟨gb104, 0, none⟩ = some (.int .i64 0) := (blk_cell BK104.out 0).trans rfl
  have hcz118_1 : wr.cell? ⟨gb104, 1, none⟩ = some (.int .i64 0) := (blk_cell BK104.out 1).trans rfl
  have hcz118_2 : wr.cell? ⟨gb104, 2, none⟩ = some (.slice none 0 0) := (blk_cell BK104.out 2).trans rfl
  have hcz118_3 : wr.cell? ⟨gb104, 3, none⟩ = some (.slice none 0 0) := (blk_cell BK104.out 3).trans rfl
  have hfz118_0 := blk_frozen BK104.out 0
  have hfz118_1 := blk_frozen BK104.out 1
  have hfz118_2 := blk_frozen BK104.out 2
  have hfz118_3 := blk_frozen BK104.out 3
  obtain ⟨Ao119, co119, eo119⟩ := Kd.R_slice HO_112003.out
  subst eo119
  go_wp2
  refine bodyPost_ret (results_cell_row rfl _ _ gb104 25 #[.int .i64 a0_0, .int .i64 a0_1, .slice Ao12 y108.length co12, .slice Ao119 x112003_1.length co119] (0, 0) _ rfl (by (with_reducible repeat (first | refine blk_drewN ?_ _ | refine blk_drew ?_ | refine blk_alloc ?_ _)); refine blk_put (cs := #[.int .i64 a0_0, .int .i64 a0_1, .slice Ao12 y108.length co12, .slice none 0 0]) ?_ 3 _ rfl; (with_reducible repeat (first | refine blk_drewN ?_ _ | refine blk_drew ?_ | refine blk_alloc ?_ _)); refine blk_put (cs := #[.int .i64 a0_0, .int .i64 a0_1, .slice none 0 0, .slice none 0 0]) ?_ 2 _ rfl; (with_reducible repeat (first | refine blk_drewN ?_ _ | refine blk_drew ?_ | refine blk_alloc ?_ _)); refine blk_put (cs := #[.int .i64 a0_0, .int .i64 0, .slice none 0 0, .slice none 0 0]) ?_ 1 _ rfl; (with_reducible repeat (first | refine blk_drewN ?_ _ | refine blk_drew ?_ | refine blk_alloc ?_ _)); refine blk_put (cs := #[.int .i64 0, .int .i64 0, .slice none 0 0, .slice none 0 0]) ?_ 0 _ rfl; (with_reducible repeat (first | refine blk_drewN ?_ _ | refine blk_drew ?_ | refine blk_alloc ?_ _)); exact BK104.out) Try.underlying25 rfl (by kernel_rfl)) rfl ?_
  exact ⟨_, _, by first | rfl | (simp [errW_none, errW_some] <;> rfl) | (simp [*, errW_none, errW_some] <;> rfl), ru (R_mono (Kd.R_far (p := ⟨gb104, 3, none⟩) (Kd.R_far (p := ⟨gb104, 2, none⟩) (Kd.R_far (p := ⟨gb104, 1, none⟩) (Kd.R_far (p := ⟨gb104, 0, none⟩) (Kd.R_types HO_112002.out BK104.out (by decide)) (fun _ hk => hk.2) (.int .i64 a0_0)) (fun _ hk => hk.2) (.int .i64 a0_1)) (fun _ hk => hk.2) (.slice Ao12 y108.length co12)) (fun _ hk => hk.2) (.slice Ao119 x112003_1.length co119)) (fun _ hk => trivial)), ru (R_mono (Kd.R_far (p := ⟨gb104, 3, none⟩) (Kd.R_far (p := ⟨gb104, 2, none⟩) (Kd.R_far (p := ⟨gb104, 1, none⟩) (Kd.R_far (p := ⟨gb104, 0, none⟩) (Kd.R_types HO_112003.out BK104.out (by decide)) (fun _ hk => hk.2) (.int .i64 a0_0)) (fun _ hk => hk.2) (.int .i64 a0_1)) (fun _ hk => hk.2) (.slice Ao12 y108.length co12)) (fun _ hk => hk.2) (.slice Ao119 x112003_1.length co119)) (fun _ hk => hk.1)), by repeat (first | (with_reducible first | exact HB.out | apply below_alloc | apply pw_below_drewN | apply below_drew1 | refine below_set ?_ GE103.out | refine below_set ?_ GE104.out | refine below_set ?_ GE111.out) | exact HB.out)⟩
end Go.Proofs.Ytpionncanaamgaa.PLoopsStays
