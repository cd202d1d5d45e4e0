-- Laid by a program of this session (wip/pp/patch.py over the kit's print).
import Derived.Test.YtocjpkjijjdnbaaDoorPCheckMorex0
import Derived.Test.YtocjpkjijjdnbaaDoorShort
namespace Go.Proofs.YtocjpkjijjdnbaaDoor.PCheckMore
open Go.Proofs.YtocjpkjijjdnbaaDoor.Short Go.RowKit Go.Proofs.YtocjpkjijjdnbaaDoorW.PrintWords Go.Proofs.YtocjpkjijjdnbaaDoorW.PrintLast Go.Proofs.YtocjpkjijjdnbaaDoorW.PrintMore Go.Proofs.YtocjpkjijjdnbaaDoorW.PrintWords.Kd
attribute [local go_sem] max2_int min2_int max_two min_two max_three min_three max_four min_four   -- for this text's walks alone
attribute [local go_sem] eqErr28 neErr28 nilErr28
set_option linter.unusedVariables false
set_option linter.unusedSimpArgs false

/-! ### fettleref02_CopyFunc: function 10 -/
mutual
def fettleref02_CopyFunc.l0 : Nat → Int → Int → Int → List Int → List (S44) → Int → Int → List Int → List (S44) → Option (Int × Int × List Int × (List (S44)))
  | 0, _, _, _, _, _, _, _, _, _ => none
  | k + 1, x4, x171000, x171001, x171002, x171003, x179000, x179001, x179002, x179003 => if x4 < (x171003.length : Int) then (if 0 ≤ x4 then ((some (([] : List Int) : List Int)).bind fun y181 => (if y181.length + ((rd_T44 x171003 x4).f2.f2).length < 17592186044416 then (fettleref02_CopyFunc.l1 k x4 0 x171000 x171001 x171002 x171003 x179000 x179001 x179002 x179003 ((rd_T44 x171003 x4).f0) ((rd_T44 x171003 x4).f1) ((rd_T44 x171003 x4).f2.f0) ((rd_T44 x171003 x4).f2.f1) ((rd_T44 x171003 x4).f2.f2) ([] : List (S48)) ((rd_T44 x171003 x4).f2.f0) ((rd_T44 x171003 x4).f2.f1) (y181 ++ ((rd_T44 x171003 x4).f2.f2))) else (none))) else (none)) else (some (x179000, x179001, x179002, x179003))
def fettleref02_CopyFunc.l1 : Nat → Int → Int → Int → Int → List Int → List (S44) → Int → Int → List Int → List (S44) → List (S48) → List (S46) → Int → Int → List Int → List (S48) → Int → Int → List Int → Option (Int × Int × List Int × (List (S44)))
  | 0, _, _, _, _, _, _, _, _, _, _, _, _, _, _, _, _, _, _, _ => none
  | k + 1, x4, x7, x171000, x171001, x171002, x171003, x179000, x179001, x179002, x179003, x181000, x181001, x181002, x181003, x181004, x188000, x188002, x188003, x188004 => if x7 < (x181000.length : Int) then (if 0 ≤ x7 then ((some (([] : List Int) : List Int)).bind fun y189 => (if y189.length + ((rd_T48 x181000 x7).f1).length < 17592186044416 then (if x188000.length < 4398046511104 then (fettleref02_CopyFunc.l1 k x4 (wrap64 (x7 + 1)) x171000 x171001 x171002 x171003 x179000 x179001 x179002 x179003 x181000 x181001 x181002 x181003 x181004 (x188000 ++ [(⟨(rd_T48 x181000 x7).f0, (y189 ++ ((rd_T48 x181000 x7).f1))⟩ : S48)]) x188002 x188003 x188004) else (none)) else (none))) else (none)) else (fettleref02_CopyFunc.l2 k x4 0 x171000 x171001 x171002 x171003 x179000 x179001 x179002 x179003 x181000 x181001 x181002 x181003 x181004 x188000 ([] : List (S46)) x188002 x188003 x188004)
def fettleref02_CopyFunc.l2 : Nat → Int → Int → Int → Int → List Int → List (S44) → Int → Int → List Int → List (S44) → List (S48) → List (S46) → Int → Int → List Int → List (S48) → List (S46) → Int → Int → List Int → Option (Int × Int × List Int × (List (S44)))
  | 0, _, _, _, _, _, _, _, _, _, _, _, _, _, _, _, _, _, _, _, _ => none
  | k + 1, x4, x8, x171000, x171001, x171002, x171003, x179000, x179001, x179002, x179003, x181000, x181001, x181002, x181003, x181004, x188000, x188001, x188002, x188003, x188004 => if x8 < (x181001.length : Int) then (if 0 ≤ x8 then ((some (([] : List Int) : List Int)).bind fun y201 => (if y201.length + ((rd_T46 x181001 x8).f2).length < 17592186044416 then (if x188001.length < 2513169434916 then (fettleref02_CopyFunc.l2 k x4 (wrap64 (x8 + 1)) x171000 x171001 x171002 x171003 x179000 x179001 x179002 x179003 x181000 x181001 x181002 x181003 x181004 x188000 (x188001 ++ [(⟨(rd_T46 x181001 x8).f0, (rd_T46 x181001 x8).f1, (y201 ++ ((rd_T46 x181001 x8).f2)), (rd_T46 x181001 x8).f3, (rd_T46 x181001 x8).f4⟩ : S46)]) x188002 x188003 x188004) else (none)) else (none))) else (none)) else (if x179003.length < 1599289640401 then (fettleref02_CopyFunc.l0 k (wrap64 (x4 + 1)) x171000 x171001 x171002 x171003 x179000 x179001 x179002 (x179003 ++ [(⟨x188000, x188001, (⟨x188002, x188003, x188004⟩ : S42)⟩ : S44)])) else (none))
end
def fettleref02_CopyFunc.f (k : Nat) (a0_0 : Int) (a0_1 : Int) (l0_2 : List Int) (l0_3 : List (S44)) : Option (Int × Int × List Int × (List (S44))) := (some (([] : List Int) : List Int)).bind fun y172 => (if y172.length + l0_2.length < 17592186044416 then (fettleref02_CopyFunc.l0 k 0 a0_0 a0_1 l0_2 l0_3 a0_0 a0_1 (y172 ++ l0_2) ([] : List (S44))) else (none))
theorem fettleref02_CopyFunc.mono_l : ∀ k, (∀ y0 y1 y2 y3 y4 y5 y6 y7 y8, LeO (fettleref02_CopyFunc.l0 k y0 y1 y2 y3 y4 y5 y6 y7 y8) (fettleref02_CopyFunc.l0 (k + 1) y0 y1 y2 y3 y4 y5 y6 y7 y8)) ∧ (∀ y0 y1 y2 y3 y4 y5 y6 y7 y8 y9 y10 y11 y12 y13 y14 y15 y16 y17 y18, LeO (fettleref02_CopyFunc.l1 k y0 y1 y2 y3 y4 y5 y6 y7 y8 y9 y10 y11 y12 y13 y14 y15 y16 y17 y18) (fettleref02_CopyFunc.l1 (k + 1) y0 y1 y2 y3 y4 y5 y6 y7 y8 y9 y10 y11 y12 y13 y14 y15 y16 y17 y18)) ∧ (∀ y0 y1 y2 y3 y4 y5 y6 y7 y8 y9 y10 y11 y12 y13 y14 y15 y16 y17 y18 y19, LeO (fettleref02_CopyFunc.l2 k y0 y1 y2 y3 y4 y5 y6 y7 y8 y9 y10 y11 y12 y13 y14 y15 y16 y17 y18 y19) (fettleref02_CopyFunc.l2 (k + 1) y0 y1 y2 y3 y4 y5 y6 y7 y8 y9 y10 y11 y12 y13 y14 y15 y16 y17 y18 y19))
  | 0 => ⟨fun _ _ _ _ _ _ _ _ _ r h => by simp [fettleref02_CopyFunc.l0] at h, fun _ _ _ _ _ _ _ _ _ _ _ _ _ _ _ _ _ _ _ r h => by simp [fettleref02_CopyFunc.l1] at h, fun _ _ _ _ _ _ _ _ _ _ _ _ _ _ _ _ _ _ _ _ r h => by simp [fettleref02_CopyFunc.l2] at h⟩
  | k + 1 => by
    obtain ⟨ih0, ih1, ih2⟩ := fettleref02_CopyFunc.mono_l k
    refine ⟨?_, ?_, ?_⟩
    · intro y0 y1 y2 y3 y4 y5 y6 y7 y8
      unfold fettleref02_CopyFunc.l0
      repeat' first
      | (with_reducible exact ih0 _ _ _ _ _ _ _ _ _)
      | (with_reducible exact ih1 _ _ _ _ _ _ _ _ _ _ _ _ _ _ _ _ _ _ _)
      | (with_reducible exact ih2 _ _ _ _ _ _ _ _ _ _ _ _ _ _ _ _ _ _ _ _)
      | (with_reducible exact LeO.refl _)
      | (with_reducible exact LeO.none _)
      | (with_reducible refine LeO.ite ?_ ?_)
      | (with_reducible refine LeO.bind ?_ (fun _ => ?_))
      | exact ih0 _ _ _ _ _ _ _ _ _
      | exact ih1 _ _ _ _ _ _ _ _ _ _ _ _ _ _ _ _ _ _ _
      | exact ih2 _ _ _ _ _ _ _ _ _ _ _ _ _ _ _ _ _ _ _ _
      | exact LeO.none _
      | refine LeO.ite ?_ ?_
      | refine LeO.bind ?_ (fun _ => ?_)
    · intro y0 y1 y2 y3 y4 y5 y6 y7 y8 y9 y10 y11 y12 y13 y14 y15 y16 y17 y18
      unfold fettleref02_CopyFunc.l1
      repeat' first
      | (with_reducible exact ih0 _ _ _ _ _ _ _ _ _)
      | (with_reducible exact ih1 _ _ _ _ _ _ _ _ _ _ _ _ _ _ _ _ _ _ _)
      | (with_reducible exact ih2 _ _ _ _ _ _ _ _ _ _ _ _ _ _ _ _ _ _ _ _)
      | (with_reducible exact LeO.refl _)
      | (with_reducible exact LeO.none _)
      | (with_reducible refine LeO.ite ?_ ?_)
      | (with_reducible refine LeO.bind ?_ (fun _ => ?_))
      | exact ih0 _ _ _ _ _ _ _ _ _
      | exact ih1 _ _ _ _ _ _ _ _ _ _ _ _ _ _ _ _ _ _ _
      | exact ih2 _ _ _ _ _ _ _ _ _ _ _ _ _ _ _ _ _ _ _ _
      | exact LeO.none _
      | refine LeO.ite ?_ ?_
      | refine LeO.bind ?_ (fun _ => ?_)
    · intro y0 y1 y2 y3 y4 y5 y6 y7 y8 y9 y10 y11 y12 y13 y14 y15 y16 y17 y18 y19
      unfold fettleref02_CopyFunc.l2
      repeat' first
      | (with_reducible exact ih0 _ _ _ _ _ _ _ _ _)
      | (with_reducible exact ih1 _ _ _ _ _ _ _ _ _ _ _ _ _ _ _ _ _ _ _)
      | (with_reducible exact ih2 _ _ _ _ _ _ _ _ _ _ _ _ _ _ _ _ _ _ _ _)
      | (with_reducible exact LeO.refl _)
      | (with_reducible exact LeO.none _)
      | (with_reducible refine LeO.ite ?_ ?_)
      | (with_reducible refine LeO.bind ?_ (fun _ => ?_))
      | exact ih0 _ _ _ _ _ _ _ _ _
      | exact ih1 _ _ _ _ _ _ _ _ _ _ _ _ _ _ _ _ _ _ _
      | exact ih2 _ _ _ _ _ _ _ _ _ _ _ _ _ _ _ _ _ _ _ _
      | exact LeO.none _
      | refine LeO.ite ?_ ?_
      | refine LeO.bind ?_ (fun _ => ?_)
theorem fettleref02_CopyFunc.mono : ∀ a0 a1 a2 a3 k, LeO (fettleref02_CopyFunc.f k a0 a1 a2 a3) (fettleref02_CopyFunc.f (k + 1) a0 a1 a2 a3) := by
  intro a0 a1 a2 a3 k
  obtain ⟨ih0, ih1, ih2⟩ := fettleref02_CopyFunc.mono_l k
  unfold fettleref02_CopyFunc.f
  repeat' first
      | (with_reducible exact ih0 _ _ _ _ _ _ _ _ _)
      | (with_reducible exact ih1 _ _ _ _ _ _ _ _ _ _ _ _ _ _ _ _ _ _ _)
      | (with_reducible exact ih2 _ _ _ _ _ _ _ _ _ _ _ _ _ _ _ _ _ _ _ _)
      | (with_reducible exact LeO.refl _)
      | (with_reducible exact LeO.none _)
      | (with_reducible refine LeO.ite ?_ ?_)
      | (with_reducible refine LeO.bind ?_ (fun _ => ?_))
      | exact ih0 _ _ _ _ _ _ _ _ _
      | exact ih1 _ _ _ _ _ _ _ _ _ _ _ _ _ _ _ _ _ _ _
      | exact ih2 _ _ _ _ _ _ _ _ _ _ _ _ _ _ _ _ _ _ _ _
      | exact LeO.none _
      | refine LeO.ite ?_ ?_
      | refine LeO.bind ?_ (fun _ => ?_)
def fettleref02_CopyFunc.T1 : Bool × List (List Nat × List Nat) := (true, [([], []), ([0], [0]), ([], []), ([2], [2]), ([], []), ([], []), ([5], [5]), ([4, 6], [4, 6]), ([1, 3, 7], [1, 3, 7]), ([], []), ([9, 8, 7, 0, 1, 2, 3, 4, 5, 6, 7, 8, 9], [8, 9])])
def fettleref02_CopyFunc.B1 : List Nat := [0, 1, 0, 4, 0, 0, 32, 112, 255, 0, 1023]
theorem fettleref02_CopyFunc.tab1 : rtab .any (opsOf Tryd.f10 1) = fettleref02_CopyFunc.T1 := by kernel_rfl
theorem fettleref02_CopyFunc.bits1 : waitsOk fettleref02_CopyFunc.T1.2 fettleref02_CopyFunc.B1 = true := by kernel_rfl
def fettleref02_CopyFunc.T6 : Bool × List (List Nat × List Nat) := (true, [([], []), ([0], [0]), ([1], [1]), ([], []), ([3], [3]), ([4], [4]), ([], []), ([], []), ([7], [7]), ([8], [8]), ([6, 9], [6, 9]), ([2, 5, 10], [2, 5, 10]), ([11], [11]), ([], []), ([13, 12, 10, 0, 1, 2, 3, 4, 5, 6, 7, 8, 9, 10, 11, 12, 13], [12, 13])])
def fettleref02_CopyFunc.B6 : List Nat := [0, 1, 3, 0, 8, 24, 0, 0, 128, 384, 960, 2047, 4095, 0, 16383]
theorem fettleref02_CopyFunc.tab6 : rtab .any (opsOf Tryd.f10 6) = fettleref02_CopyFunc.T6 := by kernel_rfl
theorem fettleref02_CopyFunc.bits6 : waitsOk fettleref02_CopyFunc.T6.2 fettleref02_CopyFunc.B6 = true := by kernel_rfl
def fettleref02_CopyFunc.T10 : Bool × List (List Nat × List Nat) := (true, [([], []), ([0], [0]), ([], []), ([2], [2]), ([], []), ([3, 4], [3, 4]), ([5], [5]), ([6], [6]), ([], []), ([], []), ([9], [9]), ([], []), ([10, 11], [10, 11]), ([12], [12]), ([13], [13]), ([8, 14], [8, 14]), ([7, 15], [7, 15]), ([16], [16]), ([1, 17, 15], [1, 17]), ([0, 1, 2, 3, 4, 5, 6, 7, 8, 9, 10, 11, 12, 13, 14, 15, 16, 17, 18], []), ([19, 18, 18, 0, 1, 2, 3, 4, 5, 6, 7, 8, 9, 10, 11, 12, 13, 14, 15, 16, 17, 18], [18, 19])])
def fettleref02_CopyFunc.B10 : List Nat := [0, 1, 0, 4, 0, 28, 60, 124, 0, 0, 512, 0, 3584, 7680, 15872, 32512, 65532, 131068, 262143, 524287, 1048575]
theorem fettleref02_CopyFunc.tab10 : rtab .any (opsOf Tryd.f10 10) = fettleref02_CopyFunc.T10 := by kernel_rfl
theorem fettleref02_CopyFunc.bits10 : waitsOk fettleref02_CopyFunc.T10.2 fettleref02_CopyFunc.B10 = true := by kernel_rfl
set_option maxHeartbeats 8000000 in
set_option maxRecDepth 100000 in
theorem fettleref02_CopyFunc.calls (k : Nat) (a0_0 : Int) (a0_1 : Int) (A0_2 : Option Addr) (c0_2 : Nat) (l0_2 : List Int) (A0_3 : Option Addr) (c0_3 : Nat) (l0_3 : List (S44)) (r1 : Int) (r2 : Int) (r3 : List Int) (r4 : List (S44)) (w : World) (hr0_2 : Kd.C (Kd.int .i64) w A0_2 l0_2.length l0_2) (hc0_2 : l0_2.length ≤ c0_2) (hr0_3 : Kd.C k44 w A0_3 l0_3.length l0_3) (hc0_3 : l0_3.length ≤ c0_3) (h : fettleref02_CopyFunc.f k a0_0 a0_1 l0_2 l0_3 = some (r1, r2, r3, r4)) :
    Calls Tryd.prog 10 #[.agg #[.int .i64 a0_0, .int .i64 a0_1, .slice A0_2 l0_2.length c0_2, .slice A0_3 l0_3.length c0_3]] w fun e w' => ∃ v2_ v3_ : Value, e = .returned (.agg #[.int .i64 r1, .int .i64 r2, v2_, v3_]) ∧ Kd.R (Kd.int .i64) 3 w' w.heap.size (fun _ => True) v2_ r3 ∧ Kd.R k44 44 w' w.heap.size (fun k_ => some k_ ≠ (v2_ : Value).ownBlock) v3_ r4 ∧ Below w.heap.size w w' := by
  have hu34 := Tryd.underlying34
  have hu44 := Tryd.underlying44
  have hu42 := Tryd.underlying42
  have hu48 := Tryd.underlying48
  have hu46 := Tryd.underlying46
  have HR0_2 := Aside0.mk hr0_2
  have HC0_2 := Aside0.mk hc0_2
  clear hr0_2 hc0_2
  have HR0_3 := Aside0.mk hr0_3
  have HC0_3 := Aside0.mk hc0_3
  clear hr0_3 hc0_3
  have HB := Aside0.mk (Below.refl w.heap.size w)
  have H : ((some (([] : List Int) : List Int)).bind fun y172 => (if y172.length + l0_2.length < 17592186044416 then (fettleref02_CopyFunc.l0 k 0 a0_0 a0_1 l0_2 l0_3 a0_0 a0_1 (y172 ++ l0_2) ([] : List (S44))) else (none))) = some (r1, r2, r3, r4) := h
  clear h
  obtain ⟨y172, hy172⟩ : ∃ y_ : List Int, y_ = (([] : List Int)) := ⟨_, rfl⟩
  replace H : (if y172.length + l0_2.length < 17592186044416 then (fettleref02_CopyFunc.l0 k 0 a0_0 a0_1 l0_2 l0_3 a0_0 a0_1 (y172 ++ l0_2) ([] : List (S44))) else (none)) = some (r1, r2, r3, r4) := by first | (rw [hy172]; with_reducible exact H) | (have H2_ := (Option.bind_some _ _).symm.trans H; rw [hy172]; with_reducible exact H2_) | exact H
  have Ny172 := Aside0.mk hy172
  clear hy172
  by_cases c2 : y172.length + l0_2.length < 17592186044416
  rotate_left
  · rw [if_neg c2] at H
    exact absurd H (by simp)


  rw [if_pos c2] at H
  have LMc2 := Aside0.mk c2
  clear c2
  obtain ⟨y175, hy175⟩ : ∃ y_ : List Int, y_ = (y172 ++ l0_2) := ⟨_, rfl⟩
  replace H : (fettleref02_CopyFunc.l0 k 0 a0_0 a0_1 l0_2 l0_3 a0_0 a0_1 y175 ([] : List (S44))) = some (r1, r2, r3, r4) := by first | (rw [hy175]; with_reducible exact H) | (have H2_ := (Option.bind_some _ _).symm.trans H; rw [hy175]; with_reducible exact H2_) | exact H
  have Ny175 := Aside0.mk hy175
  clear hy175
  have H' := Aside0.mk H
  clear H
  go_enter Tryd.func10, Tryd.ntmps10
  try go_wp2_with (first | ((with_reducible refine gate_dst (N := 1) rfl ?_); refine box_event ?hg (N := 1) ?hd (cs := #[.int .i64 a0_0, .int .i64 a0_1, .slice A0_2 l0_2.length c0_2, .slice A0_3 l0_3.length c0_3]) (t := 34) ?hr ?_; (case hd => rfl); (case hg => rfl); (case hr => first | (go_simp; done) | (go_simp; rfl)); intro gb170 hg w3 hbox hb; have n0_ := Aside0.mk (below_step (by repeat with_reducible first | exact HB.out | apply below_alloc | apply pw_below_drewN | apply below_drew1) hb); have n1_ := Aside0.mk (hbox); have n2_ := Aside0.mk ((by rw [hg]; exact (below_size (by repeat with_reducible first | exact HB.out | apply below_alloc | apply pw_below_drewN | apply below_drew1)) : w.heap.size ≤ gb170)); have n3_ := Aside0.mk ((by rw [hg]; exact (below_size (by repeat with_reducible first | exact HB.out | apply below_alloc | apply pw_below_drewN | apply below_drew1)) : w.heap.size ≤ gb170)); clear HB; have HB := n0_; have BK170 := n1_; have GW170 := n2_; have GE170 := n3_; clear n0_ n1_ n2_ n3_; clear hb hbox hg) | ((with_reducible refine gate_dst (N := 2) rfl ?_); refine box_event ?hg (N := 2) ?hd (cs := #[.int .i64 0, .int .i64 0, .slice none 0 0, .slice none 0 0]) (t := 34) ?hr ?_; (case hd => rfl); (case hg => rfl); (case hr => first | (go_simp; done) | (go_simp; rfl)); intro gb171 hg w4 hbox hb; have n0_ := Aside0.mk (blk_below (g := gb170) (o := .cells #[.int .i64 a0_0, .int .i64 a0_1, .slice A0_2 l0_2.length c0_2, .slice A0_3 l0_3.length c0_3] 34 (0, 0)) (by (with_reducible repeat (first | refine blk_drewN ?_ _ | refine blk_drew ?_ | refine blk_alloc ?_ _)); exact BK170.out) hb); have n1_ := Aside0.mk (below_step (by repeat with_reducible first | exact HB.out | apply below_alloc | apply pw_below_drewN | apply below_drew1 | refine below_set ?_ GE170.out) hb); have n2_ := Aside0.mk (hbox); have n3_ := Aside0.mk ((by rw [hg]; exact (below_size (by repeat with_reducible first | exact HB.out | apply below_alloc | apply pw_below_drewN | apply below_drew1 | refine below_set ?_ GE170.out)) : w.heap.size ≤ gb171)); have n4_ := Aside0.mk ((by rw [hg]; exact (below_size (by repeat with_reducible first | exact HB.out | apply below_alloc | apply pw_below_drewN | apply below_drew1 | refine below_set ?_ GE170.out)) : w.heap.size ≤ gb171)); have n5_ := Aside0.mk ((by rw [hg]; exact Nat.ne_of_lt (blk_lt (g := gb170) (o := .cells #[.int .i64 a0_0, .int .i64 a0_1, .slice A0_2 l0_2.length c0_2, .slice A0_3 l0_3.length c0_3] 34 (0, 0)) (by (with_reducible repeat (first | refine blk_drewN ?_ _ | refine blk_drew ?_ | refine blk_alloc ?_ _)); exact BK170.out)) : gb170 ≠ gb171)); have n6_ := Aside0.mk ((by rw [hg]; exact Nat.ne_of_gt (blk_lt (g := gb170) (o := .cells #[.int .i64 a0_0, .int .i64 a0_1, .slice A0_2 l0_2.length c0_2, .slice A0_3 l0_3.length c0_3] 34 (0, 0)) (by (with_reducible repeat (first | refine blk_drewN ?_ _ | refine blk_drew ?_ | refine blk_alloc ?_ _)); exact BK170.out)) : gb171 ≠ gb170)); clear BK170; clear HB; have BK170 := n0_; have HB := n1_; have BK171 := n2_; have GW171 := n3_; have GE171 := n4_; have NB170_171 := n5_; have NB171_170 := n6_; clear n0_ n1_ n2_ n3_ n4_ n5_ n6_; clear hb hbox hg))
  have n0_ := Aside0.mk (blk_drew BK170.out)
  have n1_ := Aside0.mk (blk_drew BK171.out)
  have n2_ := Aside0.mk (below_drew1 HB.out)
  clear BK170
  clear BK171
  clear HB
  have BK170 := n0_
  have BK171 := n1_
  have HB := n2_
  clear n0_ n1_ n2_
  refine start_ (n := 11) (S := fun w' => w'.cell? ⟨gb170, 0, none⟩ = some (.int .i64 a0_0) ∧ w'.cell? ⟨gb170, 1, none⟩ = some (.int .i64 a0_1) ∧ w'.cell? ⟨gb170, 2, none⟩ = some (.slice A0_2 l0_2.length c0_2) ∧ w'.cell? ⟨gb170, 3, none⟩ = some (.slice A0_3 l0_3.length c0_3)) (ds := []) #[false, false, false, false, false, false, false, false, false, false, false] (by kernel_rfl) rfl rfl ⟨(blk_cell BK170.out 0).trans rfl, (blk_cell BK170.out 1).trans rfl, (blk_cell BK170.out 2).trans rfl, (blk_cell BK170.out 3).trans rfl⟩ (fun hHeld => ?_); refine with_tabW fettleref02_CopyFunc.tab1 fettleref02_CopyFunc.bits1 (fun HT_ HW_ => ?_)
  generalize w4.drew = w5 at BK170 BK171 HB hHeld ⊢
  refine pu 0 10 (bt 11 1) HT_.out ?_
  refine pu 2 12 (bt 11 5) HT_.out ?_
  refine pu 5 15 (bt 11 37) HT_.out ?_
  refine tk 1 11 (bt 11 39) HT_.out HW_.out hHeld rfl rfl (by rintro w' ⟨s0, s1, s2, s3⟩; go_simp; with_reducible rfl) ?_
  refine tk 3 13 (bt 11 47) HT_.out HW_.out hHeld rfl rfl (by rintro w' ⟨s0, s1, s2, s3⟩; go_simp; with_reducible rfl) ?_
  refine tk 6 16 (bt 11 111) HT_.out HW_.out hHeld rfl rfl (by rintro w' ⟨s0, s1, s2, s3⟩; go_simp; with_reducible rfl) ?_
  refine join_ (σ := Value × Value × Nat) 1 (bt 11 1023) (fun s_ => [(14, s_.1), (17, s_.2.1), (3, .pointer (some ⟨s_.2.2, 0, none⟩)), (18, .agg #[.int .i64 a0_0, .int .i64 a0_1, s_.2.1, .slice none 0 0])]) (fun s_ w' => (w'.cell? ⟨gb170, 0, none⟩ = some (.int .i64 a0_0) ∧ w'.cell? ⟨gb170, 1, none⟩ = some (.int .i64 a0_1) ∧ w'.cell? ⟨gb170, 2, none⟩ = some (.slice A0_2 l0_2.length c0_2) ∧ w'.cell? ⟨gb170, 3, none⟩ = some (.slice A0_3 l0_3.length c0_3)) ∧ (Kd.R (Kd.int .i64) 3 w' w.heap.size (fun _ => True) s_.2.1 y175) ∧ (w'.heap[gb170]? = some (.cells #[.int .i64 a0_0, .int .i64 a0_1, .slice A0_2 l0_2.length c0_2, .slice A0_3 l0_3.length c0_3] 34 (0, 0))) ∧ (w'.heap[gb171]? = some (.cells #[.int .i64 0, .int .i64 0, .slice none 0 0, .slice none 0 0] 34 (0, 0))) ∧ (w'.heap[s_.2.2]? = some (.cells #[.int .i64 0, .int .i64 0, .slice none 0 0, .slice none 0 0] 34 (0, 0))) ∧ (w.heap.size ≤ s_.2.2) ∧ (w.heap.size ≤ s_.2.2) ∧ (gb170 ≠ s_.2.2) ∧ (s_.2.2 ≠ gb170) ∧ (gb171 ≠ s_.2.2) ∧ (s_.2.2 ≠ gb171) ∧ (Below w.heap.size w w')) ?_ ?_
  rotate_left
  · intro hCont
    refine two_ (i := 4) (j := 9) (Ni := some 14) (Nj := some 3) (bt 11 127) (bt 11 623) rfl rfl rfl rfl (two_of HT_.out (by kernel_rfl)) (by decide) (by decide) (fun K hK => ?_) (fun K hK => ?_)
    · skip
      refine Kd.R_lit_step (Kd.int .i64) _ 3 ?hg (N := 14) ?hd (xs := ([] : List Int)) (inner := []) (ok := fun _ => True) (okp := fun _ => True) ?hr ?hp (fun _ hk => hk) trivial (Below.refl _ _) (Nat.le_refl _) (by simp) ?_; (case hd => rfl); (case hg => rfl); (case hr => first | (go_simp; done) | (go_simp; rfl)); (case hp => exact (Reps.none _ _))
      intro v173 w6 ho7 hb hg_ hnew_
      clear hg_ hnew_
      rw [← Ny172.out] at ho7
      have n0_ := Aside0.mk (Kd.R_lower ho7 (below_size (by repeat with_reducible first | exact HB.out | apply below_alloc | apply pw_below_drewN | apply below_drew1 | refine below_set ?_ GE170.out | refine below_set ?_ GE171.out)))
      have n1_ := Aside0.mk (blk_below (g := gb170) (o := .cells #[.int .i64 a0_0, .int .i64 a0_1, .slice A0_2 l0_2.length c0_2, .slice A0_3 l0_3.length c0_3] 34 (0, 0)) (by (with_reducible repeat (first | refine blk_drewN ?_ _ | refine blk_drew ?_ | refine blk_alloc ?_ _)); exact BK170.out) hb)
      have n2_ := Aside0.mk (blk_below (g := gb171) (o := .cells #[.int .i64 0, .int .i64 0, .slice none 0 0, .slice none 0 0] 34 (0, 0)) (by (with_reducible repeat (first | refine blk_drewN ?_ _ | refine blk_drew ?_ | refine blk_alloc ?_ _)); exact BK171.out) hb)
      have n3_ := Aside0.mk (below_step (by repeat with_reducible first | exact HB.out | apply below_alloc | apply pw_below_drewN | apply below_drew1 | refine below_set ?_ GE170.out | refine below_set ?_ GE171.out) hb)
      clear BK170
      clear BK171
      clear HB
      have HO174 := n0_
      have BK170 := n1_
      have BK171 := n2_
      have HB := n3_
      clear n0_ n1_ n2_ n3_
      clear hb ho7
      refine hK.out _ _ ⟨(blk_cell BK170.out 0).trans rfl, (blk_cell BK170.out 1).trans rfl, (blk_cell BK170.out 2).trans rfl, (blk_cell BK170.out 3).trans rfl⟩ (fun hHeld => ?_)
      clear hK K
      refine norm_ (a' := ?_) ?_ ?_
      rotate_left
      · show Act.put _ (some 14) _ = _
        simp only [Act.put, List.setIfInBounds_toArray, List.set_cons_zero, List.set_cons_succ, i64_w, i32_w]
        rfl
      refine two_ (i := 7) (j := 9) (Ni := some 17) (Nj := some 3) (bt 11 255) (bt 11 639) rfl rfl rfl rfl (two_of HT_.out (by kernel_rfl)) (by decide) (by decide) (fun K hK => ?_) (fun K hK => ?_)
      · skip
        refine Kd.R_append_rows_step (Kd.int .i64) (w0 := w) w.heap.size (by rfl) (.tmp 14) (.tmp 16) 31 3 (.int .i64 0) 8 rfl Tryd.underlying31 info3 rfl (by decide) (by omega) v173 y172 l0_2 _ _ _ (fun _ => True) (fun _ => False) rfl rfl ?aO ?aR (fun _ _ h => h) (fun _ h => h.elim) ?aF ?aB ?aS ?aL ?_
        (case aR => repeat (first | exact (C_below HR0_2.out HB.out) | (with_reducible refine C_alloc ?_ _) | (with_reducible refine C_drewN ?_ _) | (with_reducible refine C_drew ?_)))
        (case aB => exact (by repeat with_reducible first | exact HB.out | apply below_alloc | apply pw_below_drewN | apply below_drew1 | refine below_set ?_ GE170.out | refine below_set ?_ GE171.out))
        (case aF => exact (fun _ _ => trivial))
        (case aO => exact (by (with_reducible repeat (first | apply R_alloc | apply R_drewN | apply R_drew)); exact HO174.out))
        (case aS => exact (below_size (by repeat with_reducible first | exact HB.out | apply below_alloc | apply pw_below_drewN | apply below_drew1 | refine below_set ?_ GE170.out | refine below_set ?_ GE171.out)))
        (case aL => have := LMc2.out; omega)
        intro v176 w8 ho hb hg hat
        rw [← Ny175.out] at ho
        have n0_ := Aside0.mk (blk_grown (g := gb170) (o := .cells #[.int .i64 a0_0, .int .i64 a0_1, .slice A0_2 l0_2.length c0_2, .slice A0_3 l0_3.length c0_3] 34 (0, 0)) (by (with_reducible repeat (first | refine blk_drewN ?_ _ | refine blk_drew ?_ | refine blk_alloc ?_ _)); exact BK170.out) hg (Kd.R_ne HO174.out BK170.out (by decide)))
        have n1_ := Aside0.mk (blk_grown (g := gb171) (o := .cells #[.int .i64 0, .int .i64 0, .slice none 0 0, .slice none 0 0] 34 (0, 0)) (by (with_reducible repeat (first | refine blk_drewN ?_ _ | refine blk_drew ?_ | refine blk_alloc ?_ _)); exact BK171.out) hg (Kd.R_ne HO174.out BK171.out (by decide)))
        have n2_ := Aside0.mk (hb)
        have n3_ := Aside0.mk (ho)
        clear BK170
        clear BK171
        clear HB
        clear HO174
        have BK170 := n0_
        have BK171 := n1_
        have HB := n2_
        have HO177 := n3_
        clear n0_ n1_ n2_ n3_
        clear ho hb hg hat
        obtain ⟨Ao9, co9, eo9⟩ := Kd.R_slice HO177.out
        (first | subst eo9 | (injection eo9 with f1_ f2_ f3_; have f4_ := f1_.symm; have f5_ := f3_.symm; clear f1_ f2_ f3_; subst f4_; subst f5_))
        refine hK.out _ _ ⟨(blk_cell BK170.out 0).trans rfl, (blk_cell BK170.out 1).trans rfl, (blk_cell BK170.out 2).trans rfl, (blk_cell BK170.out 3).trans rfl⟩ (fun hHeld => ?_)
        clear hK K
        refine norm_ (a' := ?_) ?_ ?_
        rotate_left
        · show Act.put _ (some 17) _ = _
          simp only [Act.put, List.setIfInBounds_toArray, List.set_cons_zero, List.set_cons_succ, i64_w, i32_w]
          rfl
        refine pu 8 18 (bt 11 511) HT_.out ?_
        refine one_ (i := 9) (N := some 3) (bt 11 1023) rfl rfl (one_of HT_.out (by kernel_rfl)) (by decide) (fun K hK => ?_)
        refine box_step ?hg (N := 3) ?hd (cs := #[.int .i64 0, .int .i64 0, .slice none 0 0, .slice none 0 0]) (t := 34) ?hr ?_; (case hd => rfl); (case hg => rfl); (case hr => first | (go_simp; done) | (go_simp; rfl))
        intro gb178 hg w10 hbox hb
        have n0_ := Aside0.mk (Kd.R_below (by (with_reducible repeat (first | apply R_alloc | apply R_drewN | apply R_drew)); exact HO177.out) hb)
        have n1_ := Aside0.mk (blk_below (g := gb170) (o := .cells #[.int .i64 a0_0, .int .i64 a0_1, .slice A0_2 l0_2.length c0_2, .slice A0_3 l0_3.length c0_3] 34 (0, 0)) (by (with_reducible repeat (first | refine blk_drewN ?_ _ | refine blk_drew ?_ | refine blk_alloc ?_ _)); exact BK170.out) hb)
        have n2_ := Aside0.mk (blk_below (g := gb171) (o := .cells #[.int .i64 0, .int .i64 0, .slice none 0 0, .slice none 0 0] 34 (0, 0)) (by (with_reducible repeat (first | refine blk_drewN ?_ _ | refine blk_drew ?_ | refine blk_alloc ?_ _)); exact BK171.out) hb)
        have n3_ := Aside0.mk (below_step (by repeat with_reducible first | exact HB.out | apply below_alloc | apply pw_below_drewN | apply below_drew1 | refine below_set ?_ GE170.out | refine below_set ?_ GE171.out) hb)
        have n4_ := Aside0.mk (hbox)
        have n5_ := Aside0.mk ((by rw [hg]; exact (below_size (by repeat with_reducible first | exact HB.out | apply below_alloc | apply pw_below_drewN | apply below_drew1 | refine below_set ?_ GE170.out | refine below_set ?_ GE171.out)) : w.heap.size ≤ gb178))
        have n6_ := Aside0.mk ((by rw [hg]; exact (below_size (by repeat with_reducible first | exact HB.out | apply below_alloc | apply pw_below_drewN | apply below_drew1 | refine below_set ?_ GE170.out | refine below_set ?_ GE171.out)) : w.heap.size ≤ gb178))
        have n7_ := Aside0.mk ((by rw [hg]; exact Nat.ne_of_lt (blk_lt (g := gb170) (o := .cells #[.int .i64 a0_0, .int .i64 a0_1, .slice A0_2 l0_2.length c0_2, .slice A0_3 l0_3.length c0_3] 34 (0, 0)) (by (with_reducible repeat (first | refine blk_drewN ?_ _ | refine blk_drew ?_ | refine blk_alloc ?_ _)); exact BK170.out)) : gb170 ≠ gb178))
        have n8_ := Aside0.mk ((by rw [hg]; exact Nat.ne_of_gt (blk_lt (g := gb170) (o := .cells #[.int .i64 a0_0, .int .i64 a0_1, .slice A0_2 l0_2.length c0_2, .slice A0_3 l0_3.length c0_3] 34 (0, 0)) (by (with_reducible repeat (first | refine blk_drewN ?_ _ | refine blk_drew ?_ | refine blk_alloc ?_ _)); exact BK170.out)) : gb178 ≠ gb170))
        have n9_ := Aside0.mk ((by rw [hg]; exact Nat.ne_of_lt (blk_lt (g := gb171) (o := .cells #[.int .i64 0, .int .i64 0, .slice none 0 0, .slice none 0 0] 34 (0, 0)) (by (with_reducible repeat (first | refine blk_drewN ?_ _ | refine blk_drew ?_ | refine blk_alloc ?_ _)); exact BK171.out)) : gb171 ≠ gb178))
        have n10_ := Aside0.mk ((by rw [hg]; exact Nat.ne_of_gt (blk_lt (g := gb171) (o := .cells #[.int .i64 0, .int .i64 0, .slice none 0 0, .slice none 0 0] 34 (0, 0)) (by (with_reducible repeat (first | refine blk_drewN ?_ _ | refine blk_drew ?_ | refine blk_alloc ?_ _)); exact BK171.out)) : gb178 ≠ gb171))
        clear HO177
        clear BK170
        clear BK171
        clear HB
        have HO177 := n0_
        have BK170 := n1_
        have BK171 := n2_
        have HB := n3_
        have BK178 := n4_
        have GW178 := n5_
        have GE178 := n6_
        have NB170_178 := n7_
        have NB178_170 := n8_
        have NB171_178 := n9_
        have NB178_171 := n10_
        clear n0_ n1_ n2_ n3_ n4_ n5_ n6_ n7_ n8_ n9_ n10_
        clear hb hbox hg
        refine hK.out _ _ ⟨(blk_cell BK170.out 0).trans rfl, (blk_cell BK170.out 1).trans rfl, (blk_cell BK170.out 2).trans rfl, (blk_cell BK170.out 3).trans rfl⟩ (fun hHeld => ?_)
        clear hK K
        refine norm_ (a' := ?_) ?_ ?_
        rotate_left
        · show Act.put _ (some 3) _ = _
          simp only [Act.put, List.setIfInBounds_toArray, List.set_cons_zero, List.set_cons_succ, i64_w, i32_w]
          rfl
        exact norm_ (by simp only [putAll, Act.put, List.setIfInBounds_toArray, List.set_cons_zero, List.set_cons_succ]) (hCont (v173, .slice Ao9 y175.length co9, gb178) _ ⟨hHeld, (by (with_reducible repeat (first | apply R_alloc | apply R_drewN | apply R_drew)); exact HO177.out), (by (with_reducible repeat (first | refine blk_drewN ?_ _ | refine blk_drew ?_ | refine blk_alloc ?_ _)); exact BK170.out), (by (with_reducible repeat (first | refine blk_drewN ?_ _ | refine blk_drew ?_ | refine blk_alloc ?_ _)); exact BK171.out), (by (with_reducible repeat (first | refine blk_drewN ?_ _ | refine blk_drew ?_ | refine blk_alloc ?_ _)); exact BK178.out), GW178.out, GE178.out, NB170_178.out, NB178_170.out, NB171_178.out, NB178_171.out, (by repeat with_reducible first | exact HB.out | apply below_alloc | apply pw_below_drewN | apply below_drew1 | refine below_set ?_ GE170.out | refine below_set ?_ GE171.out | refine below_set ?_ GE178.out)⟩)
      skip
      refine box_step ?hg (N := 3) ?hd (cs := #[.int .i64 0, .int .i64 0, .slice none 0 0, .slice none 0 0]) (t := 34) ?hr ?_; (case hd => rfl); (case hg => rfl); (case hr => first | (go_simp; done) | (go_simp; rfl))
      intro gb178 hg w8 hbox hb
      have n0_ := Aside0.mk (Kd.R_below (by (with_reducible repeat (first | apply R_alloc | apply R_drewN | apply R_drew)); exact HO174.out) hb)
      have n1_ := Aside0.mk (blk_below (g := gb170) (o := .cells #[.int .i64 a0_0, .int .i64 a0_1, .slice A0_2 l0_2.length c0_2, .slice A0_3 l0_3.length c0_3] 34 (0, 0)) (by (with_reducible repeat (first | refine blk_drewN ?_ _ | refine blk_drew ?_ | refine blk_alloc ?_ _)); exact BK170.out) hb)
      have n2_ := Aside0.mk (blk_below (g := gb171) (o := .cells #[.int .i64 0, .int .i64 0, .slice none 0 0, .slice none 0 0] 34 (0, 0)) (by (with_reducible repeat (first | refine blk_drewN ?_ _ | refine blk_drew ?_ | refine blk_alloc ?_ _)); exact BK171.out) hb)
      have n3_ := Aside0.mk (below_step (by repeat with_reducible first | exact HB.out | apply below_alloc | apply pw_below_drewN | apply below_drew1 | refine below_set ?_ GE170.out | refine below_set ?_ GE171.out) hb)
      have n4_ := Aside0.mk (hbox)
      have n5_ := Aside0.mk ((by rw [hg]; exact (below_size (by repeat with_reducible first | exact HB.out | apply below_alloc | apply pw_below_drewN | apply below_drew1 | refine below_set ?_ GE170.out | refine below_set ?_ GE171.out)) : w.heap.size ≤ gb178))
      have n6_ := Aside0.mk ((by rw [hg]; exact (below_size (by repeat with_reducible first | exact HB.out | apply below_alloc | apply pw_below_drewN | apply below_drew1 | refine below_set ?_ GE170.out | refine below_set ?_ GE171.out)) : w.heap.size ≤ gb178))
      have n7_ := Aside0.mk ((by rw [hg]; exact Nat.ne_of_lt (blk_lt (g := gb170) (o := .cells #[.int .i64 a0_0, .int .i64 a0_1, .slice A0_2 l0_2.length c0_2, .slice A0_3 l0_3.length c0_3] 34 (0, 0)) (by (with_reducible repeat (first | refine blk_drewN ?_ _ | refine blk_drew ?_ | refine blk_alloc ?_ _)); exact BK170.out)) : gb170 ≠ gb178))
      have n8_ := Aside0.mk ((by rw [hg]; exact Nat.ne_of_gt (blk_lt (g := gb170) (o := .cells #[.int .i64 a0_0, .int .i64 a0_1, .slice A0_2 l0_2.length c0_2, .slice A0_3 l0_3.length c0_3] 34 (0, 0)) (by (with_reducible repeat (first | refine blk_drewN ?_ _ | refine blk_drew ?_ | refine blk_alloc ?_ _)); exact BK170.out)) : gb178 ≠ gb170))
      have n9_ := Aside0.mk ((by rw [hg]; exact Nat.ne_of_lt (blk_lt (g := gb171) (o := .cells #[.int .i64 0, .int .i64 0, .slice none 0 0, .slice none 0 0] 34 (0, 0)) (by (with_reducible repeat (first | refine blk_drewN ?_ _ | refine blk_drew ?_ | refine blk_alloc ?_ _)); exact BK171.out)) : gb171 ≠ gb178))
      have n10_ := Aside0.mk ((by rw [hg]; exact Nat.ne_of_gt (blk_lt (g := gb171) (o := .cells #[.int .i64 0, .int .i64 0, .slice none 0 0, .slice none 0 0] 34 (0, 0)) (by (with_reducible repeat (first | refine blk_drewN ?_ _ | refine blk_drew ?_ | refine blk_alloc ?_ _)); exact BK171.out)) : gb178 ≠ gb171))
      clear HO174
      clear BK170
      clear BK171
      clear HB
      have HO174 := n0_
      have BK170 := n1_
      have BK171 := n2_
      have HB := n3_
      have BK178 := n4_
      have GW178 := n5_
      have GE178 := n6_
      have NB170_178 := n7_
      have NB178_170 := n8_
      have NB171_178 := n9_
      have NB178_171 := n10_
      clear n0_ n1_ n2_ n3_ n4_ n5_ n6_ n7_ n8_ n9_ n10_
      clear hb hbox hg
      refine hK.out _ _ ⟨(blk_cell BK170.out 0).trans rfl, (blk_cell BK170.out 1).trans rfl, (blk_cell BK170.out 2).trans rfl, (blk_cell BK170.out 3).trans rfl⟩ (fun hHeld => ?_)
      clear hK K
      refine norm_ (a' := ?_) ?_ ?_
      rotate_left
      · show Act.put _ (some 3) _ = _
        simp only [Act.put, List.setIfInBounds_toArray, List.set_cons_zero, List.set_cons_succ, i64_w, i32_w]
        rfl
      refine one_ (i := 7) (N := some 17) (bt 11 767) rfl rfl (one_of HT_.out (by kernel_rfl)) (by decide) (fun K hK => ?_)
      refine Kd.R_append_rows_step (Kd.int .i64) (w0 := w) w.heap.size (by rfl) (.tmp 14) (.tmp 16) 31 3 (.int .i64 0) 8 rfl Tryd.underlying31 info3 rfl (by decide) (by omega) v173 y172 l0_2 _ _ _ (fun _ => True) (fun _ => False) rfl rfl ?aO ?aR (fun _ _ h => h) (fun _ h => h.elim) ?aF ?aB ?aS ?aL ?_
      (case aR => repeat (first | exact (C_below HR0_2.out HB.out) | (with_reducible refine C_alloc ?_ _) | (with_reducible refine C_drewN ?_ _) | (with_reducible refine C_drew ?_)))
      (case aB => exact (by repeat with_reducible first | exact HB.out | apply below_alloc | apply pw_below_drewN | apply below_drew1 | refine below_set ?_ GE170.out | refine below_set ?_ GE171.out | refine below_set ?_ GE178.out))
      (case aF => exact (fun _ _ => trivial))
      (case aO => exact (by (with_reducible repeat (first | apply R_alloc | apply R_drewN | apply R_drew)); exact HO174.out))
      (case aS => exact (below_size (by repeat with_reducible first | exact HB.out | apply below_alloc | apply pw_below_drewN | apply below_drew1 | refine below_set ?_ GE170.out | refine below_set ?_ GE171.out | refine below_set ?_ GE178.out)))
      (case aL => have := LMc2.out; omega)
      intro v176 w9 ho hb hg hat
      rw [← Ny175.out] at ho
      have n0_ := Aside0.mk (blk_grown (g := gb170) (o := .cells #[.int .i64 a0_0, .int .i64 a0_1, .slice A0_2 l0_2.length c0_2, .slice A0_3 l0_3.length c0_3] 34 (0, 0)) (by (with_reducible repeat (first | refine blk_drewN ?_ _ | refine blk_drew ?_ | refine blk_alloc ?_ _)); exact BK170.out) hg (Kd.R_ne HO174.out BK170.out (by decide)))
      have n1_ := Aside0.mk (blk_grown (g := gb171) (o := .cells #[.int .i64 0, .int .i64 0, .slice none 0 0, .slice none 0 0] 34 (0, 0)) (by (with_reducible repeat (first | refine blk_drewN ?_ _ | refine blk_drew ?_ | refine blk_alloc ?_ _)); exact BK171.out) hg (Kd.R_ne HO174.out BK171.out (by decide)))
      have n2_ := Aside0.mk (blk_grown (g := gb178) (o := .cells #[.int .i64 0, .int .i64 0, .slice none 0 0, .slice none 0 0] 34 (0, 0)) (by (with_reducible repeat (first | refine blk_drewN ?_ _ | refine blk_drew ?_ | refine blk_alloc ?_ _)); exact BK178.out) hg (Kd.R_ne HO174.out BK178.out (by decide)))
      have n3_ := Aside0.mk (hb)
      have n4_ := Aside0.mk (ho)
      clear BK170
      clear BK171
      clear BK178
      clear HB
      clear HO174
      have BK170 := n0_
      have BK171 := n1_
      have BK178 := n2_
      have HB := n3_
      have HO177 := n4_
      clear n0_ n1_ n2_ n3_ n4_
      clear ho hb hg hat
      obtain ⟨Ao10, co10, eo10⟩ := Kd.R_slice HO177.out
      (first | subst eo10 | (injection eo10 with f1_ f2_ f3_; have f4_ := f1_.symm; have f5_ := f3_.symm; clear f1_ f2_ f3_; subst f4_; subst f5_))
      refine hK.out _ _ ⟨(blk_cell BK170.out 0).trans rfl, (blk_cell BK170.out 1).trans rfl, (blk_cell BK170.out 2).trans rfl, (blk_cell BK170.out 3).trans rfl⟩ (fun hHeld => ?_)
      clear hK K
      refine norm_ (a' := ?_) ?_ ?_
      rotate_left
      · show Act.put _ (some 17) _ = _
        simp only [Act.put, List.setIfInBounds_toArray, List.set_cons_zero, List.set_cons_succ, i64_w, i32_w]
        rfl
      refine pu 8 18 (bt 11 1023) HT_.out ?_
      exact norm_ (by simp only [putAll, Act.put, List.setIfInBounds_toArray, List.set_cons_zero, List.set_cons_succ]) (hCont (v173, .slice Ao10 y175.length co10, gb178) _ ⟨hHeld, (by (with_reducible repeat (first | apply R_alloc | apply R_drewN | apply R_drew)); exact HO177.out), (by (with_reducible repeat (first | refine blk_drewN ?_ _ | refine blk_drew ?_ | refine blk_alloc ?_ _)); exact BK170.out), (by (with_reducible repeat (first | refine blk_drewN ?_ _ | refine blk_drew ?_ | refine blk_alloc ?_ _)); exact BK171.out), (by (with_reducible repeat (first | refine blk_drewN ?_ _ | refine blk_drew ?_ | refine blk_alloc ?_ _)); exact BK178.out), GW178.out, GE178.out, NB170_178.out, NB178_170.out, NB171_178.out, NB178_171.out, (by repeat with_reducible first | exact HB.out | apply below_alloc | apply pw_below_drewN | apply below_drew1 | refine below_set ?_ GE170.out | refine below_set ?_ GE171.out | refine below_set ?_ GE178.out)⟩)
    skip
    refine box_step ?hg (N := 3) ?hd (cs := #[.int .i64 0, .int .i64 0, .slice none 0 0, .slice none 0 0]) (t := 34) ?hr ?_; (case hd => rfl); (case hg => rfl); (case hr => first | (go_simp; done) | (go_simp; rfl))
    intro gb178 hg w6 hbox hb
    have n0_ := Aside0.mk (blk_below (g := gb170) (o := .cells #[.int .i64 a0_0, .int .i64 a0_1, .slice A0_2 l0_2.length c0_2, .slice A0_3 l0_3.length c0_3] 34 (0, 0)) (by (with_reducible repeat (first | refine blk_drewN ?_ _ | refine blk_drew ?_ | refine blk_alloc ?_ _)); exact BK170.out) hb)
    have n1_ := Aside0.mk (blk_below (g := gb171) (o := .cells #[.int .i64 0, .int .i64 0, .slice none 0 0, .slice none 0 0] 34 (0, 0)) (by (with_reducible repeat (first | refine blk_drewN ?_ _ | refine blk_drew ?_ | refine blk_alloc ?_ _)); exact BK171.out) hb)
    have n2_ := Aside0.mk (below_step (by repeat with_reducible first | exact HB.out | apply below_alloc | apply pw_below_drewN | apply below_drew1 | refine below_set ?_ GE170.out | refine below_set ?_ GE171.out) hb)
    have n3_ := Aside0.mk (hbox)
    have n4_ := Aside0.mk ((by rw [hg]; exact (below_size (by repeat with_reducible first | exact HB.out | apply below_alloc | apply pw_below_drewN | apply below_drew1 | refine below_set ?_ GE170.out | refine below_set ?_ GE171.out)) : w.heap.size ≤ gb178))
    have n5_ := Aside0.mk ((by rw [hg]; exact (below_size (by repeat with_reducible first | exact HB.out | apply below_alloc | apply pw_below_drewN | apply below_drew1 | refine below_set ?_ GE170.out | refine below_set ?_ GE171.out)) : w.heap.size ≤ gb178))
    have n6_ := Aside0.mk ((by rw [hg]; exact Nat.ne_of_lt (blk_lt (g := gb170) (o := .cells #[.int .i64 a0_0, .int .i64 a0_1, .slice A0_2 l0_2.length c0_2, .slice A0_3 l0_3.length c0_3] 34 (0, 0)) (by (with_reducible repeat (first | refine blk_drewN ?_ _ | refine blk_drew ?_ | refine blk_alloc ?_ _)); exact BK170.out)) : gb170 ≠ gb178))
    have n7_ := Aside0.mk ((by rw [hg]; exact Nat.ne_of_gt (blk_lt (g := gb170) (o := .cells #[.int .i64 a0_0, .int .i64 a0_1, .slice A0_2 l0_2.length c0_2, .slice A0_3 l0_3.length c0_3] 34 (0, 0)) (by (with_reducible repeat (first | refine blk_drewN ?_ _ | refine blk_drew ?_ | refine blk_alloc ?_ _)); exact BK170.out)) : gb178 ≠ gb170))
    have n8_ := Aside0.mk ((by rw [hg]; exact Nat.ne_of_lt (blk_lt (g := gb171) (o := .cells #[.int .i64 0, .int .i64 0, .slice none 0 0, .slice none 0 0] 34 (0, 0)) (by (with_reducible repeat (first | refine blk_drewN ?_ _ | refine blk_drew ?_ | refine blk_alloc ?_ _)); exact BK171.out)) : gb171 ≠ gb178))
    have n9_ := Aside0.mk ((by rw [hg]; exact Nat.ne_of_gt (blk_lt (g := gb171) (o := .cells #[.int .i64 0, .int .i64 0, .slice none 0 0, .slice none 0 0] 34 (0, 0)) (by (with_reducible repeat (first | refine blk_drewN ?_ _ | refine blk_drew ?_ | refine blk_alloc ?_ _)); exact BK171.out)) : gb178 ≠ gb171))
    clear BK170
    clear BK171
    clear HB
    have BK170 := n0_
    have BK171 := n1_
    have HB := n2_
    have BK178 := n3_
    have GW178 := n4_
    have GE178 := n5_
    have NB170_178 := n6_
    have NB178_170 := n7_
    have NB171_178 := n8_
    have NB178_171 := n9_
    clear n0_ n1_ n2_ n3_ n4_ n5_ n6_ n7_ n8_ n9_
    clear hb hbox hg
    refine hK.out _ _ ⟨(blk_cell BK170.out 0).trans rfl, (blk_cell BK170.out 1).trans rfl, (blk_cell BK170.out 2).trans rfl, (blk_cell BK170.out 3).trans rfl⟩ (fun hHeld => ?_)
    clear hK K
    refine norm_ (a' := ?_) ?_ ?_
    rotate_left
    · show Act.put _ (some 3) _ = _
      simp only [Act.put, List.setIfInBounds_toArray, List.set_cons_zero, List.set_cons_succ, i64_w, i32_w]
      rfl
    refine one_ (i := 4) (N := some 14) (bt 11 639) rfl rfl (one_of HT_.out (by kernel_rfl)) (by decide) (fun K hK => ?_)
    refine Kd.R_lit_step (Kd.int .i64) _ 3 ?hg (N := 14) ?hd (xs := ([] : List Int)) (inner := []) (ok := fun _ => True) (okp := fun _ => True) ?hr ?hp (fun _ hk => hk) trivial (Below.refl _ _) (Nat.le_refl _) (by simp) ?_; (case hd => rfl); (case hg => rfl); (case hr => first | (go_simp; done) | (go_simp; rfl)); (case hp => exact (Reps.none _ _))
    intro v173 w7 ho8 hb hg_ hnew_
    clear hg_ hnew_
    rw [← Ny172.out] at ho8
    have n0_ := Aside0.mk (Kd.R_lower ho8 (below_size (by repeat with_reducible first | exact HB.out | apply below_alloc | apply pw_below_drewN | apply below_drew1 | refine below_set ?_ GE170.out | refine below_set ?_ GE171.out | refine below_set ?_ GE178.out)))
    have n1_ := Aside0.mk (blk_below (g := gb170) (o := .cells #[.int .i64 a0_0, .int .i64 a0_1, .slice A0_2 l0_2.length c0_2, .slice A0_3 l0_3.length c0_3] 34 (0, 0)) (by (with_reducible repeat (first | refine blk_drewN ?_ _ | refine blk_drew ?_ | refine blk_alloc ?_ _)); exact BK170.out) hb)
    have n2_ := Aside0.mk (blk_below (g := gb171) (o := .cells #[.int .i64 0, .int .i64 0, .slice none 0 0, .slice none 0 0] 34 (0, 0)) (by (with_reducible repeat (first | refine blk_drewN ?_ _ | refine blk_drew ?_ | refine blk_alloc ?_ _)); exact BK171.out) hb)
    have n3_ := Aside0.mk (blk_below (g := gb178) (o := .cells #[.int .i64 0, .int .i64 0, .slice none 0 0, .slice none 0 0] 34 (0, 0)) (by (with_reducible repeat (first | refine blk_drewN ?_ _ | refine blk_drew ?_ | refine blk_alloc ?_ _)); exact BK178.out) hb)
    have n4_ := Aside0.mk (below_step (by repeat with_reducible first | exact HB.out | apply below_alloc | apply pw_below_drewN | apply below_drew1 | refine below_set ?_ GE170.out | refine below_set ?_ GE171.out | refine below_set ?_ GE178.out) hb)
    clear BK170
    clear BK171
    clear BK178
    clear HB
    have HO174 := n0_
    have BK170 := n1_
    have BK171 := n2_
    have BK178 := n3_
    have HB := n4_
    clear n0_ n1_ n2_ n3_ n4_
    clear hb ho8
    refine hK.out _ _ ⟨(blk_cell BK170.out 0).trans rfl, (blk_cell BK170.out 1).trans rfl, (blk_cell BK170.out 2).trans rfl, (blk_cell BK170.out 3).trans rfl⟩ (fun hHeld => ?_)
    clear hK K
    refine norm_ (a' := ?_) ?_ ?_
    rotate_left
    · show Act.put _ (some 14) _ = _
      simp only [Act.put, List.setIfInBounds_toArray, List.set_cons_zero, List.set_cons_succ, i64_w, i32_w]
      rfl
    refine one_ (i := 7) (N := some 17) (bt 11 767) rfl rfl (one_of HT_.out (by kernel_rfl)) (by decide) (fun K hK => ?_)
    refine Kd.R_append_rows_step (Kd.int .i64) (w0 := w) w.heap.size (by rfl) (.tmp 14) (.tmp 16) 31 3 (.int .i64 0) 8 rfl Tryd.underlying31 info3 rfl (by decide) (by omega) v173 y172 l0_2 _ _ _ (fun _ => True) (fun _ => False) rfl rfl ?aO ?aR (fun _ _ h => h) (fun _ h => h.elim) ?aF ?aB ?aS ?aL ?_
    (case aR => repeat (first | exact (C_below HR0_2.out HB.out) | (with_reducible refine C_alloc ?_ _) | (with_reducible refine C_drewN ?_ _) | (with_reducible refine C_drew ?_)))
    (case aB => exact (by repeat with_reducible first | exact HB.out | apply below_alloc | apply pw_below_drewN | apply below_drew1 | refine below_set ?_ GE170.out | refine below_set ?_ GE171.out | refine below_set ?_ GE178.out))
    (case aF => exact (fun _ _ => trivial))
    (case aO => exact (by (with_reducible repeat (first | apply R_alloc | apply R_drewN | apply R_drew)); exact HO174.out))
    (case aS => exact (below_size (by repeat with_reducible first | exact HB.out | apply below_alloc | apply pw_below_drewN | apply below_drew1 | refine below_set ?_ GE170.out | refine below_set ?_ GE171.out | refine below_set ?_ GE178.out)))
    (case aL => have := LMc2.out; omega)
    intro v176 w9 ho hb hg hat
    rw [← Ny175.out] at ho
    have n0_ := Aside0.mk (blk_grown (g := gb170) (o := .cells #[.int .i64 a0_0, .int .i64 a0_1, .slice A0_2 l0_2.length c0_2, .slice A0_3 l0_3.length c0_3] 34 (0, 0)) (by (with_reducible repeat (first | refine blk_drewN ?_ _ | refine blk_drew ?_ | refine blk_alloc ?_ _)); exact BK170.out) hg (Kd.R_ne HO174.out BK170.out (by decide)))
    have n1_ := Aside0.mk (blk_grown (g := gb171) (o := .cells #[.int .i64 0, .int .i64 0, .slice none 0 0, .slice none 0 0] 34 (0, 0)) (by (with_reducible repeat (first | refine blk_drewN ?_ _ | refine blk_drew ?_ | refine blk_alloc ?_ _)); exact BK171.out) hg (Kd.R_ne HO174.out BK171.out (by decide)))
    have n2_ := Aside0.mk (blk_grown (g := gb178) (o := .cells #[.int .i64 0, .int .i64 0, .slice none 0 0, .slice none 0 0] 34 (0, 0)) (by (with_reducible repeat (first | refine blk_drewN ?_ _ | refine blk_drew ?_ | refine blk_alloc ?_ _)); exact BK178.out) hg (Kd.R_ne HO174.out BK178.out (by decide)))
    have n3_ := Aside0.mk (hb)
    have n4_ := Aside0.mk (ho)
    clear BK170
    clear BK171
    clear BK178
    clear HB
    clear HO174
    have BK170 := n0_
    have BK171 := n1_
    have BK178 := n2_
    have HB := n3_
    have HO177 := n4_
    clear n0_ n1_ n2_ n3_ n4_
    clear ho hb hg hat
    obtain ⟨Ao10, co10, eo10⟩ := Kd.R_slice HO177.out
    (first | subst eo10 | (injection eo10 with f1_ f2_ f3_; have f4_ := f1_.symm; have f5_ := f3_.symm; clear f1_ f2_ f3_; subst f4_; subst f5_))
    refine hK.out _ _ ⟨(blk_cell BK170.out 0).trans rfl, (blk_cell BK170.out 1).trans rfl, (blk_cell BK170.out 2).trans rfl, (blk_cell BK170.out 3).trans rfl⟩ (fun hHeld => ?_)
    clear hK K
    refine norm_ (a' := ?_) ?_ ?_
    rotate_left
    · show Act.put _ (some 17) _ = _
      simp only [Act.put, List.setIfInBounds_toArray, List.set_cons_zero, List.set_cons_succ, i64_w, i32_w]
      rfl
    refine pu 8 18 (bt 11 1023) HT_.out ?_
    exact norm_ (by simp only [putAll, Act.put, List.setIfInBounds_toArray, List.set_cons_zero, List.set_cons_succ]) (hCont (v173, .slice Ao10 y175.length co10, gb178) _ ⟨hHeld, (by (with_reducible repeat (first | apply R_alloc | apply R_drewN | apply R_drew)); exact HO177.out), (by (with_reducible repeat (first | refine blk_drewN ?_ _ | refine blk_drew ?_ | refine blk_alloc ?_ _)); exact BK170.out), (by (with_reducible repeat (first | refine blk_drewN ?_ _ | refine blk_drew ?_ | refine blk_alloc ?_ _)); exact BK171.out), (by (with_reducible repeat (first | refine blk_drewN ?_ _ | refine blk_drew ?_ | refine blk_alloc ?_ _)); exact BK178.out), GW178.out, GE178.out, NB170_178.out, NB178_170.out, NB171_178.out, NB178_171.out, (by repeat with_reducible first | exact HB.out | apply below_alloc | apply pw_below_drewN | apply below_drew1 | refine below_set ?_ GE170.out | refine below_set ?_ GE171.out | refine below_set ?_ GE178.out)⟩)
  rintro ⟨v173, v176, gb178⟩ w11 ⟨hS_, h0_, h1_, h2_, h3_, h4_, h5_, h6_, h7_, h8_, h9_, h10_⟩
  have n0_ : Aside0 (Kd.R (Kd.int .i64) 3 w11 w.heap.size (fun _ => True) v176 y175) := ⟨h0_⟩
  have n1_ : Aside0 (w11.heap[gb170]? = some (.cells #[.int .i64 a0_0, .int .i64 a0_1, .slice A0_2 l0_2.length c0_2, .slice A0_3 l0_3.length c0_3] 34 (0, 0))) := ⟨h1_⟩
  have n2_ : Aside0 (w11.heap[gb171]? = some (.cells #[.int .i64 0, .int .i64 0, .slice none 0 0, .slice none 0 0] 34 (0, 0))) := ⟨h2_⟩
  have n3_ : Aside0 (w11.heap[gb178]? = some (.cells #[.int .i64 0, .int .i64 0, .slice none 0 0, .slice none 0 0] 34 (0, 0))) := ⟨h3_⟩
  have n4_ : Aside0 (w.heap.size ≤ gb178) := ⟨h4_⟩
  have n5_ : Aside0 (w.heap.size ≤ gb178) := ⟨h5_⟩
  have n6_ : Aside0 (gb170 ≠ gb178) := ⟨h6_⟩
  have n7_ : Aside0 (gb178 ≠ gb170) := ⟨h7_⟩
  have n8_ : Aside0 (gb171 ≠ gb178) := ⟨h8_⟩
  have n9_ : Aside0 (gb178 ≠ gb171) := ⟨h9_⟩
  have n10_ : Aside0 (Below w.heap.size w w11) := ⟨h10_⟩
  clear BK170
  clear BK171
  clear HB
  clear h0_ h1_ h2_ h3_ h4_ h5_ h6_ h7_ h8_ h9_ h10_
  have HO177 := n0_
  have BK170 := n1_
  have BK171 := n2_
  have BK178 := n3_
  have GW178 := n4_
  have GE178 := n5_
  have NB170_178 := n6_
  have NB178_170 := n7_
  have NB171_178 := n8_
  have NB178_171 := n9_
  have HB := n10_
  clear n0_ n1_ n2_ n3_ n4_ n5_ n6_ n7_ n8_ n9_ n10_
  have hHeld : w11.cell? ⟨gb170, 0, none⟩ = some (.int .i64 a0_0) ∧ w11.cell? ⟨gb170, 1, none⟩ = some (.int .i64 a0_1) ∧ w11.cell? ⟨gb170, 2, none⟩ = some (.slice A0_2 l0_2.length c0_2) ∧ w11.cell? ⟨gb170, 3, none⟩ = some (.slice A0_3 l0_3.length c0_3) := hS_
  obtain ⟨Ao12, co12, eo12⟩ := Kd.R_slice HO177.out
  (first | subst eo12 | (injection eo12 with f1_ f2_ f3_; have f4_ := f1_.symm; have f5_ := f3_.symm; clear f1_ f2_ f3_; subst f4_; subst f5_))
  refine norm_ (a' := ?_) ?_ ?_
  rotate_left
  · simp only [putAll, Act.put, List.setIfInBounds_toArray, List.set_cons_zero, List.set_cons_succ]
    rfl
  refine one_ (i := 10) (N := none) (bt 11 2047) rfl rfl (one_of HT_.out (by kernel_rfl)) (by decide) (fun K hK => ?_)
  have hs13 : w11.cell? ⟨gb178, 0, none⟩ = some (.int .i64 0) := (blk_cell BK178.out 0).trans rfl
  have hfs13 := blk_frozen BK178.out 0
  have hns13_0 := NB170_178.out
  have hns13_1 := NB171_178.out
  have hms13_0 := NB178_170.out
  have hms13_1 := NB178_171.out
  have hs14 : w11.cell? ⟨gb178, 1, none⟩ = some (.int .i64 0) := (blk_cell BK178.out 1).trans rfl
  have hfs14 := blk_frozen BK178.out 1
  have hns14_0 := NB170_178.out
  have hns14_1 := NB171_178.out
  have hms14_0 := NB178_170.out
  have hms14_1 := NB178_171.out
  have hs15 : w11.cell? ⟨gb178, 2, none⟩ = some (.slice none 0 0) := (blk_cell BK178.out 2).trans rfl
  have hfs15 := blk_frozen BK178.out 2
  have hns15_0 := NB170_178.out
  have hns15_1 := NB171_178.out
  have hms15_0 := NB178_170.out
  have hms15_1 := NB178_171.out
  have hs16 : w11.cell? ⟨gb178, 3, none⟩ = some (.slice none 0 0) := (blk_cell BK178.out 3).trans rfl
  have hfs16 := blk_frozen BK178.out 3
  have hns16_0 := NB170_178.out
  have hns16_1 := NB171_178.out
  have hms16_0 := NB178_170.out
  have hms16_1 := NB178_171.out
  refine skip_ (w1 := ?_) (by rfl) rfl ?_ ?_
  rotate_left
  · go_simp
    rfl
  refine hK.out _ _ ⟨((cell_far (p := ⟨gb178, _, none⟩) NB170_178.out _).trans (((cell_far (p := ⟨gb178, _, none⟩) NB170_178.out _).trans (((cell_far (p := ⟨gb178, _, none⟩) NB170_178.out _).trans (((cell_far (p := ⟨gb178, _, none⟩) NB170_178.out _).trans (hHeld.1)))))))), ((cell_far (p := ⟨gb178, _, none⟩) NB170_178.out _).trans (((cell_far (p := ⟨gb178, _, none⟩) NB170_178.out _).trans (((cell_far (p := ⟨gb178, _, none⟩) NB170_178.out _).trans (((cell_far (p := ⟨gb178, _, none⟩) NB170_178.out _).trans (hHeld.2.1)))))))), ((cell_far (p := ⟨gb178, _, none⟩) NB170_178.out _).trans (((cell_far (p := ⟨gb178, _, none⟩) NB170_178.out _).trans (((cell_far (p := ⟨gb178, _, none⟩) NB170_178.out _).trans (((cell_far (p := ⟨gb178, _, none⟩) NB170_178.out _).trans (hHeld.2.2.1)))))))), ((cell_far (p := ⟨gb178, _, none⟩) NB170_178.out _).trans (((cell_far (p := ⟨gb178, _, none⟩) NB170_178.out _).trans (((cell_far (p := ⟨gb178, _, none⟩) NB170_178.out _).trans (((cell_far (p := ⟨gb178, _, none⟩) NB170_178.out _).trans (hHeld.2.2.2))))))))⟩ (fun hHeld => ?_)
  clear hK K
  refine done_ (done_of HT_.out (by kernel_rfl)) ?_
  try go_wp2
  go_loopg [4] k (fun kq v4 w' => ∃ (x4_1 : Int) (x179003_1 : List (S44)) (u179003 : Value), v4 = .int .i64 x4_1 ∧ Aside0 (fettleref02_CopyFunc.l0 kq x4_1 a0_0 a0_1 l0_2 l0_3 a0_0 a0_1 y175 x179003_1 = some (r1, r2, r3, r4)) ∧ Aside0 (kq ≤ k) ∧ Aside0 (Kd.R (Kd.int .i64) 3 w' w.heap.size (fun _ => True) (.slice Ao12 y175.length co12) y175) ∧ Aside0 (Kd.R k44 44 w' w.heap.size (fun k_ => some k_ ≠ ((.slice Ao12 y175.length co12) : Value).ownBlock) u179003 x179003_1) ∧ Aside0 (w'.heap[gb170]? = some (.cells #[.int .i64 a0_0, .int .i64 a0_1, (.slice A0_2 l0_2.length c0_2), (.slice A0_3 l0_3.length c0_3)] 34 (0, 0))) ∧ Aside0 (w'.heap[gb171]? = some (.cells #[.int .i64 0, .int .i64 0, (.slice none 0 0), (.slice none 0 0)] 34 (0, 0))) ∧ Aside0 (w'.heap[gb178]? = some (.cells #[.int .i64 a0_0, .int .i64 a0_1, (.slice Ao12 y175.length co12), u179003] 34 (0, 0))) ∧ Aside0 (Below w.heap.size w w'))
  case atStart => exact ⟨(0), (([] : List (S44))), (.slice none 0 0), (by first | rfl | (simp; done) | (simp [*]; done)), H', ⟨Nat.le_refl _⟩, ⟨by (with_reducible repeat (first | apply R_alloc | apply R_drewN | apply R_drew)); exact R_mono (Kd.R_far (p := ⟨gb178, 3, none⟩) (Kd.R_far (p := ⟨gb178, 2, none⟩) (Kd.R_far (p := ⟨gb178, 1, none⟩) (Kd.R_far (p := ⟨gb178, 0, none⟩) (Kd.R_types HO177.out BK178.out (by decide)) (fun _ hk => hk.2) (.int .i64 a0_0)) (fun _ hk => hk.2) (.int .i64 a0_1)) (fun _ hk => hk.2) (.slice Ao12 y175.length co12)) (fun _ hk => hk.2) (.slice none 0 0)) (fun _ hk => trivial)⟩, ⟨by first | exact Kd.R_nil _ _ _ _ _ | exact Kd.N_nil _ _ _ _ _ | exact Kd.V_nil _ _ _ _ _ | exact Kd.Q_nil _ _ _ _ _ | exact Kd.S_nil _ _ _ _ _⟩, ⟨by (with_reducible repeat (first | refine blk_drewN ?_ _ | refine blk_drew ?_ | refine blk_alloc ?_ _)); refine blk_far ?_ NB170_178.out _; (with_reducible repeat (first | refine blk_drewN ?_ _ | refine blk_drew ?_ | refine blk_alloc ?_ _)); refine blk_far ?_ NB170_178.out _; (with_reducible repeat (first | refine blk_drewN ?_ _ | refine blk_drew ?_ | refine blk_alloc ?_ _)); refine blk_far ?_ NB170_178.out _; (with_reducible repeat (first | refine blk_drewN ?_ _ | refine blk_drew ?_ | refine blk_alloc ?_ _)); refine blk_far ?_ NB170_178.out _; (with_reducible repeat (first | refine blk_drewN ?_ _ | refine blk_drew ?_ | refine blk_alloc ?_ _)); exact BK170.out⟩, ⟨by (with_reducible repeat (first | refine blk_drewN ?_ _ | refine blk_drew ?_ | refine blk_alloc ?_ _)); refine blk_far ?_ NB171_178.out _; (with_reducible repeat (first | refine blk_drewN ?_ _ | refine blk_drew ?_ | refine blk_alloc ?_ _)); refine blk_far ?_ NB171_178.out _; (with_reducible repeat (first | refine blk_drewN ?_ _ | refine blk_drew ?_ | refine blk_alloc ?_ _)); refine blk_far ?_ NB171_178.out _; (with_reducible repeat (first | refine blk_drewN ?_ _ | refine blk_drew ?_ | refine blk_alloc ?_ _)); refine blk_far ?_ NB171_178.out _; (with_reducible repeat (first | refine blk_drewN ?_ _ | refine blk_drew ?_ | refine blk_alloc ?_ _)); exact BK171.out⟩, ⟨by (with_reducible repeat (first | refine blk_drewN ?_ _ | refine blk_drew ?_ | refine blk_alloc ?_ _)); refine blk_put (cs := #[.int .i64 a0_0, .int .i64 a0_1, .slice Ao12 y175.length co12, .slice none 0 0]) ?_ 3 _ rfl; (with_reducible repeat (first | refine blk_drewN ?_ _ | refine blk_drew ?_ | refine blk_alloc ?_ _)); refine blk_put (cs := #[.int .i64 a0_0, .int .i64 a0_1, .slice none 0 0, .slice none 0 0]) ?_ 2 _ rfl; (with_reducible repeat (first | refine blk_drewN ?_ _ | refine blk_drew ?_ | refine blk_alloc ?_ _)); refine blk_put (cs := #[.int .i64 a0_0, .int .i64 0, .slice none 0 0, .slice none 0 0]) ?_ 1 _ rfl; (with_reducible repeat (first | refine blk_drewN ?_ _ | refine blk_drew ?_ | refine blk_alloc ?_ _)); refine blk_put (cs := #[.int .i64 0, .int .i64 0, .slice none 0 0, .slice none 0 0]) ?_ 0 _ rfl; (with_reducible repeat (first | refine blk_drewN ?_ _ | refine blk_drew ?_ | refine blk_alloc ?_ _)); exact BK178.out⟩, ⟨by repeat (first | (with_reducible first | exact HB.out | apply below_alloc | apply pw_below_drewN | apply below_drew1 | refine below_set ?_ GE170.out | refine below_set ?_ GE171.out | refine below_set ?_ GE178.out) | exact HB.out)⟩⟩
  clear H'
  try clear c1
  try clear c2
  try clear p2
  try clear c10
  obtain ⟨x4_1, x179003_1, u179003, rfl, HA, HK1, HO_179002, HO_179003, BK170, BK171, BK178, HB⟩ := hrel
  rcases gk with _ | k1
  · exact absurd HA.out (by simp [fettleref02_CopyFunc.l0])
  have H := HA.out
  clear HA
  simp only [fettleref02_CopyFunc.l0] at H
  by_cases c17 : x4_1 < (l0_3.length : Int)
  · rw [if_pos c17] at H
    have c17b0 : decide (x4_1 < (l0_3.length : Int)) = true := decide_eq_true c17
    clear c17
    by_cases c18 : 0 ≤ x4_1
    rotate_left
    · rw [if_neg c18] at H
      exact absurd H (by simp)
    rw [if_pos c18] at H
    have c18b0 : decide (0 ≤ x4_1) = true := decide_eq_true c18
    clear c18
    obtain ⟨y181, hy181⟩ : ∃ y_ : List Int, y_ = (([] : List Int)) := ⟨_, rfl⟩
    replace H : (if y181.length + ((rd_T44 l0_3 x4_1).f2.f2).length < 17592186044416 then (fettleref02_CopyFunc.l1 k1 x4_1 0 a0_0 a0_1 l0_2 l0_3 a0_0 a0_1 y175 x179003_1 ((rd_T44 l0_3 x4_1).f0) ((rd_T44 l0_3 x4_1).f1) ((rd_T44 l0_3 x4_1).f2.f0) ((rd_T44 l0_3 x4_1).f2.f1) ((rd_T44 l0_3 x4_1).f2.f2) ([] : List (S48)) ((rd_T44 l0_3 x4_1).f2.f0) ((rd_T44 l0_3 x4_1).f2.f1) (y181 ++ ((rd_T44 l0_3 x4_1).f2.f2))) else (none)) = some (r1, r2, r3, r4) := by first | (rw [hy181]; with_reducible exact H) | (have H2_ := (Option.bind_some _ _).symm.trans H; rw [hy181]; with_reducible exact H2_) | exact H
    have Ny181 := Aside0.mk hy181
    clear hy181
    by_cases c19 : y181.length + ((rd_T44 l0_3 x4_1).f2.f2).length < 17592186044416
    rotate_left
    · rw [if_neg c19] at H
      exact absurd H (by simp)
    rw [if_pos c19] at H
    have LMc19 := Aside0.mk c19
    clear c19
    obtain ⟨y184, hy184⟩ : ∃ y_ : List Int, y_ = (y181 ++ ((rd_T44 l0_3 x4_1).f2.f2)) := ⟨_, rfl⟩
    replace H : (fettleref02_CopyFunc.l1 k1 x4_1 0 a0_0 a0_1 l0_2 l0_3 a0_0 a0_1 y175 x179003_1 ((rd_T44 l0_3 x4_1).f0) ((rd_T44 l0_3 x4_1).f1) ((rd_T44 l0_3 x4_1).f2.f0) ((rd_T44 l0_3 x4_1).f2.f1) ((rd_T44 l0_3 x4_1).f2.f2) ([] : List (S48)) ((rd_T44 l0_3 x4_1).f2.f0) ((rd_T44 l0_3 x4_1).f2.f1) y184) = some (r1, r2, r3, r4) := by first | (rw [hy184]; with_reducible exact H) | (have H2_ := (Option.bind_some _ _).symm.trans H; rw [hy184]; with_reducible exact H2_) | exact H
    have Ny184 := Aside0.mk hy184
    clear hy184
    have H' := Aside0.mk H
    clear H
    have hnb20 := NB170_171.out
    have hnc20 := NB171_170.out
    have hnb21 := NB170_178.out
    have hnc21 := NB178_170.out
    have hcz22_0 : wr.cell? ⟨gb170, 0, none⟩ = some (.int .i64 a0_0) := (blk_cell BK170.out 0).trans rfl
    have hcz22_1 : wr.cell? ⟨gb170, 1, none⟩ = some (.int .i64 a0_1) := (blk_cell BK170.out 1).trans rfl
    have hcz22_2 : wr.cell? ⟨gb170, 2, none⟩ = some (.slice A0_2 l0_2.length c0_2) := (blk_cell BK170.out 2).trans rfl
    have hcz22_3 : wr.cell? ⟨gb170, 3, none⟩ = some (.slice A0_3 l0_3.length c0_3) := (blk_cell BK170.out 3).trans rfl
    have hfz22_0 := blk_frozen BK170.out 0
    have hfz22_1 := blk_frozen BK170.out 1
    have hfz22_2 := blk_frozen BK170.out 2
    have hfz22_3 := blk_frozen BK170.out 3
    have p179 : 0 ≤ (x4_1 : Int) := of_decide_eq_true (by with_reducible assumption)
    have q179 : x4_1 < (l0_3.length : Int) := of_decide_eq_true (by with_reducible assumption)
    obtain ⟨ad179, A179_0, c179_0, A179_1, c179_1, A179_4, c179_4, e179, hx179_0, hx179_1, hx179_2, hx179_3, hx179_4, hl179_0, hi179_0, hl179_1, hi179_1, hl179_4, hi179_4⟩ := at_T44 HR0_3.out x4_1 p179 q179
    cases e179
    replace hx179_0 := (HB.out.cell (World.block_lt_of_cell? w _ hx179_0)).trans hx179_0
    replace hx179_1 := (HB.out.cell (World.block_lt_of_cell? w _ hx179_1)).trans hx179_1
    replace hx179_2 := (HB.out.cell (World.block_lt_of_cell? w _ hx179_2)).trans hx179_2
    replace hx179_3 := (HB.out.cell (World.block_lt_of_cell? w _ hx179_3)).trans hx179_3
    replace hx179_4 := (HB.out.cell (World.block_lt_of_cell? w _ hx179_4)).trans hx179_4
    have HR179_0 := Aside0.mk hi179_0
    have HC179_0 := Aside0.mk hl179_0
    clear hi179_0 hl179_0
    have HR179_1 := Aside0.mk hi179_1
    have HC179_1 := Aside0.mk hl179_1
    clear hi179_1 hl179_1
    have HR179_4 := Aside0.mk hi179_4
    have HC179_4 := Aside0.mk hl179_4
    clear hi179_4 hl179_4
    replace p179 := eq_true p179
    replace q179 := eq_true q179
    try go_wp2_with (first | ((with_reducible refine gate_dst (N := 5) rfl ?_); refine box_event ?hg (N := 5) ?hd (cs := #[.slice none 0 0, .slice none 0 0, .int .i64 0, .int .i64 0, .slice none 0 0]) (t := 44) ?hr ?_; (case hd => rfl); (case hg => rfl); (case hr => first | (go_simp; done) | (go_simp; rfl)); intro gb180 hg w23 hbox hb; have n0_ := Aside0.mk (Kd.R_below (by (with_reducible repeat (first | apply R_alloc | apply R_drewN | apply R_drew)); exact HO_179002.out) hb); have n1_ := Aside0.mk (Kd.R_below (Kd.R_elderB (by (with_reducible repeat (first | apply R_alloc | apply R_drewN | apply R_drew)); exact HO_179003.out) gb180 (Nat.le_of_eq hg.symm)) hb); have n2_ := Aside0.mk (blk_below (g := gb170) (o := .cells #[.int .i64 a0_0, .int .i64 a0_1, .slice A0_2 l0_2.length c0_2, .slice (some ad179) l0_3.length c0_3] 34 (0, 0)) (by (with_reducible repeat (first | refine blk_drewN ?_ _ | refine blk_drew ?_ | refine blk_alloc ?_ _)); exact BK170.out) hb); have n3_ := Aside0.mk (blk_below (g := gb171) (o := .cells #[.int .i64 0, .int .i64 0, .slice none 0 0, .slice none 0 0] 34 (0, 0)) (by (with_reducible repeat (first | refine blk_drewN ?_ _ | refine blk_drew ?_ | refine blk_alloc ?_ _)); exact BK171.out) hb); have n4_ := Aside0.mk (blk_below (g := gb178) (o := .cells #[.int .i64 a0_0, .int .i64 a0_1, .slice Ao12 y175.length co12, u179003] 34 (0, 0)) (by (with_reducible repeat (first | refine blk_drewN ?_ _ | refine blk_drew ?_ | refine blk_alloc ?_ _)); exact BK178.out) hb); have n5_ := Aside0.mk (below_step (by repeat with_reducible first | exact HB.out | apply below_alloc | apply pw_below_drewN | apply below_drew1 | refine below_set ?_ GE170.out | refine below_set ?_ GE171.out | refine below_set ?_ GE178.out) hb); have n6_ := Aside0.mk (hbox); have n7_ := Aside0.mk ((by rw [hg]; exact (below_size (by repeat with_reducible first | exact HB.out | apply below_alloc | apply pw_below_drewN | apply below_drew1 | refine below_set ?_ GE170.out | refine below_set ?_ GE171.out | refine below_set ?_ GE178.out)) : w.heap.size ≤ gb180)); have n8_ := Aside0.mk ((by rw [hg]; exact (below_size (by repeat with_reducible first | exact HB.out | apply below_alloc | apply pw_below_drewN | apply below_drew1 | refine below_set ?_ GE170.out | refine below_set ?_ GE171.out | refine below_set ?_ GE178.out)) : w.heap.size ≤ gb180)); have n9_ := Aside0.mk ((by rw [hg]; exact Nat.ne_of_lt (blk_lt (g := gb170) (o := .cells #[.int .i64 a0_0, .int .i64 a0_1, .slice A0_2 l0_2.length c0_2, .slice (some ad179) l0_3.length c0_3] 34 (0, 0)) (by (with_reducible repeat (first | refine blk_drewN ?_ _ | refine blk_drew ?_ | refine blk_alloc ?_ _)); exact BK170.out)) : gb170 ≠ gb180)); have n10_ := Aside0.mk ((by rw [hg]; exact Nat.ne_of_gt (blk_lt (g := gb170) (o := .cells #[.int .i64 a0_0, .int .i64 a0_1, .slice A0_2 l0_2.length c0_2, .slice (some ad179) l0_3.length c0_3] 34 (0, 0)) (by (with_reducible repeat (first | refine blk_drewN ?_ _ | refine blk_drew ?_ | refine blk_alloc ?_ _)); exact BK170.out)) : gb180 ≠ gb170)); have n11_ := Aside0.mk ((by rw [hg]; exact Nat.ne_of_lt (blk_lt (g := gb171) (o := .cells #[.int .i64 0, .int .i64 0, .slice none 0 0, .slice none 0 0] 34 (0, 0)) (by (with_reducible repeat (first | refine blk_drewN ?_ _ | refine blk_drew ?_ | refine blk_alloc ?_ _)); exact BK171.out)) : gb171 ≠ gb180)); have n12_ := Aside0.mk ((by rw [hg]; exact Nat.ne_of_gt (blk_lt (g := gb171) (o := .cells #[.int .i64 0, .int .i64 0, .slice none 0 0, .slice none 0 0] 34 (0, 0)) (by (with_reducible repeat (first | refine blk_drewN ?_ _ | refine blk_drew ?_ | refine blk_alloc ?_ _)); exact BK171.out)) : gb180 ≠ gb171)); have n13_ := Aside0.mk ((by rw [hg]; exact Nat.ne_of_lt (blk_lt (g := gb178) (o := .cells #[.int .i64 a0_0, .int .i64 a0_1, .slice Ao12 y175.length co12, u179003] 34 (0, 0)) (by (with_reducible repeat (first | refine blk_drewN ?_ _ | refine blk_drew ?_ | refine blk_alloc ?_ _)); exact BK178.out)) : gb178 ≠ gb180)); have n14_ := Aside0.mk ((by rw [hg]; exact Nat.ne_of_gt (blk_lt (g := gb178) (o := .cells #[.int .i64 a0_0, .int .i64 a0_1, .slice Ao12 y175.length co12, u179003] 34 (0, 0)) (by (with_reducible repeat (first | refine blk_drewN ?_ _ | refine blk_drew ?_ | refine blk_alloc ?_ _)); exact BK178.out)) : gb180 ≠ gb178)); clear HO_179002; clear HO_179003; clear BK170; clear BK171; clear BK178; clear HB; have HO_179002 := n0_; have HO_179003 := n1_; have BK170 := n2_; have BK171 := n3_; have BK178 := n4_; have HB := n5_; have BK180 := n6_; have GW180 := n7_; have GE180 := n8_; have NB170_180 := n9_; have NB180_170 := n10_; have NB171_180 := n11_; have NB180_171 := n12_; have NB178_180 := n13_; have NB180_178 := n14_; clear n0_ n1_ n2_ n3_ n4_ n5_ n6_ n7_ n8_ n9_ n10_ n11_ n12_ n13_ n14_; clear hb hbox hg; have hnb24 := NB180_170.out; have hnc24 := NB170_180.out; have hnb25 := NB180_171.out; have hnc25 := NB171_180.out; have hnb26 := NB180_178.out; have hnc26 := NB178_180.out; have hcz27_0 : w23.cell? ⟨gb180, 0, none⟩ = some (.slice none 0 0) := (blk_cell BK180.out 0).trans rfl; have hcz27_1 : w23.cell? ⟨gb180, 1, none⟩ = some (.slice none 0 0) := (blk_cell BK180.out 1).trans rfl; have hcz27_2 : w23.cell? ⟨gb180, 2, none⟩ = some (.int .i64 0) := (blk_cell BK180.out 2).trans rfl; have hcz27_3 : w23.cell? ⟨gb180, 3, none⟩ = some (.int .i64 0) := (blk_cell BK180.out 3).trans rfl; have hcz27_4 : w23.cell? ⟨gb180, 4, none⟩ = some (.slice none 0 0) := (blk_cell BK180.out 4).trans rfl; have hfz27_0 := blk_frozen BK180.out 0; have hfz27_1 := blk_frozen BK180.out 1; have hfz27_2 := blk_frozen BK180.out 2; have hfz27_3 := blk_frozen BK180.out 3; have hfz27_4 := blk_frozen BK180.out 4))
    have n0_ : Aside0 (Kd.R (Kd.int .i64) 3 (((((w23.setCell ⟨gb180, 0, none⟩ (.slice A179_0 ((rd_T44 l0_3 x4_1).f0).length c179_0)).setCell ⟨gb180, 1, none⟩ (.slice A179_1 ((rd_T44 l0_3 x4_1).f1).length c179_1)).setCell ⟨gb180, 2, none⟩ (.int .i64 ((rd_T44 l0_3 x4_1).f2.f0))).setCell ⟨gb180, 3, none⟩ (.int .i64 ((rd_T44 l0_3 x4_1).f2.f1))).setCell ⟨gb180, 4, none⟩ (.slice A179_4 ((rd_T44 l0_3 x4_1).f2.f2).length c179_4)) w.heap.size (fun _ => True) (.slice Ao12 y175.length co12) y175) := ⟨by (with_reducible repeat (first | apply R_alloc | apply R_drewN | apply R_drew)); exact R_mono (Kd.R_far (p := ⟨gb180, 4, none⟩) (Kd.R_far (p := ⟨gb180, 3, none⟩) (Kd.R_far (p := ⟨gb180, 2, none⟩) (Kd.R_far (p := ⟨gb180, 1, none⟩) (Kd.R_far (p := ⟨gb180, 0, none⟩) (Kd.R_types HO_179002.out BK180.out (by decide)) (fun _ hk => hk.2) (.slice A179_0 ((rd_T44 l0_3 x4_1).f0).length c179_0)) (fun _ hk => hk.2) (.slice A179_1 ((rd_T44 l0_3 x4_1).f1).length c179_1)) (fun _ hk => hk.2) (.int .i64 ((rd_T44 l0_3 x4_1).f2.f0))) (fun _ hk => hk.2) (.int .i64 ((rd_T44 l0_3 x4_1).f2.f1))) (fun _ hk => hk.2) (.slice A179_4 ((rd_T44 l0_3 x4_1).f2.f2).length c179_4)) (fun _ hk => trivial)⟩
    have n1_ : Aside0 (Kd.R k44 44 (((((w23.setCell ⟨gb180, 0, none⟩ (.slice A179_0 ((rd_T44 l0_3 x4_1).f0).length c179_0)).setCell ⟨gb180, 1, none⟩ (.slice A179_1 ((rd_T44 l0_3 x4_1).f1).length c179_1)).setCell ⟨gb180, 2, none⟩ (.int .i64 ((rd_T44 l0_3 x4_1).f2.f0))).setCell ⟨gb180, 3, none⟩ (.int .i64 ((rd_T44 l0_3 x4_1).f2.f1))).setCell ⟨gb180, 4, none⟩ (.slice A179_4 ((rd_T44 l0_3 x4_1).f2.f2).length c179_4)) w.heap.size (fun k_ => some k_ ≠ (.slice Ao12 y175.length co12 : Value).ownBlock ∧ k_ ≠ gb180) u179003 x179003_1) := ⟨by (with_reducible repeat (first | apply R_alloc | apply R_drewN | apply R_drew)); exact R_mono (Kd.R_far (p := ⟨gb180, 4, none⟩) (Kd.R_far (p := ⟨gb180, 3, none⟩) (Kd.R_far (p := ⟨gb180, 2, none⟩) (Kd.R_far (p := ⟨gb180, 1, none⟩) (Kd.R_far (p := ⟨gb180, 0, none⟩) (R_mono HO_179003.out (fun k_ hk => (⟨hk, hk.2⟩ : _ ∧ k_ ≠ gb180))) (fun _ hk => hk.2) (.slice A179_0 ((rd_T44 l0_3 x4_1).f0).length c179_0)) (fun _ hk => hk.2) (.slice A179_1 ((rd_T44 l0_3 x4_1).f1).length c179_1)) (fun _ hk => hk.2) (.int .i64 ((rd_T44 l0_3 x4_1).f2.f0))) (fun _ hk => hk.2) (.int .i64 ((rd_T44 l0_3 x4_1).f2.f1))) (fun _ hk => hk.2) (.slice A179_4 ((rd_T44 l0_3 x4_1).f2.f2).length c179_4)) (fun _ hk => ⟨hk.1.1, hk.1.2⟩)⟩
    have n2_ : Aside0 ((((((w23.setCell ⟨gb180, 0, none⟩ (.slice A179_0 ((rd_T44 l0_3 x4_1).f0).length c179_0)).setCell ⟨gb180, 1, none⟩ (.slice A179_1 ((rd_T44 l0_3 x4_1).f1).length c179_1)).setCell ⟨gb180, 2, none⟩ (.int .i64 ((rd_T44 l0_3 x4_1).f2.f0))).setCell ⟨gb180, 3, none⟩ (.int .i64 ((rd_T44 l0_3 x4_1).f2.f1))).setCell ⟨gb180, 4, none⟩ (.slice A179_4 ((rd_T44 l0_3 x4_1).f2.f2).length c179_4)).heap[gb170]? = some (.cells #[.int .i64 a0_0, .int .i64 a0_1, .slice A0_2 l0_2.length c0_2, .slice (some ad179) l0_3.length c0_3] 34 (0, 0))) := ⟨by (with_reducible repeat (first | refine blk_drewN ?_ _ | refine blk_drew ?_ | refine blk_alloc ?_ _)); refine blk_far ?_ NB170_180.out _; (with_reducible repeat (first | refine blk_drewN ?_ _ | refine blk_drew ?_ | refine blk_alloc ?_ _)); refine blk_far ?_ NB170_180.out _; (with_reducible repeat (first | refine blk_drewN ?_ _ | refine blk_drew ?_ | refine blk_alloc ?_ _)); refine blk_far ?_ NB170_180.out _; (with_reducible repeat (first | refine blk_drewN ?_ _ | refine blk_drew ?_ | refine blk_alloc ?_ _)); refine blk_far ?_ NB170_180.out _; (with_reducible repeat (first | refine blk_drewN ?_ _ | refine blk_drew ?_ | refine blk_alloc ?_ _)); refine blk_far ?_ NB170_180.out _; (with_reducible repeat (first | refine blk_drewN ?_ _ | refine blk_drew ?_ | refine blk_alloc ?_ _)); exact BK170.out⟩
    have n3_ : Aside0 ((((((w23.setCell ⟨gb180, 0, none⟩ (.slice A179_0 ((rd_T44 l0_3 x4_1).f0).length c179_0)).setCell ⟨gb180, 1, none⟩ (.slice A179_1 ((rd_T44 l0_3 x4_1).f1).length c179_1)).setCell ⟨gb180, 2, none⟩ (.int .i64 ((rd_T44 l0_3 x4_1).f2.f0))).setCell ⟨gb180, 3, none⟩ (.int .i64 ((rd_T44 l0_3 x4_1).f2.f1))).setCell ⟨gb180, 4, none⟩ (.slice A179_4 ((rd_T44 l0_3 x4_1).f2.f2).length c179_4)).heap[gb171]? = some (.cells #[.int .i64 0, .int .i64 0, .slice none 0 0, .slice none 0 0] 34 (0, 0))) := ⟨by (with_reducible repeat (first | refine blk_drewN ?_ _ | refine blk_drew ?_ | refine blk_alloc ?_ _)); refine blk_far ?_ NB171_180.out _; (with_reducible repeat (first | refine blk_drewN ?_ _ | refine blk_drew ?_ | refine blk_alloc ?_ _)); refine blk_far ?_ NB171_180.out _; (with_reducible repeat (first | refine blk_drewN ?_ _ | refine blk_drew ?_ | refine blk_alloc ?_ _)); refine blk_far ?_ NB171_180.out _; (with_reducible repeat (first | refine blk_drewN ?_ _ | refine blk_drew ?_ | refine blk_alloc ?_ _)); refine blk_far ?_ NB171_180.out _; (with_reducible repeat (first | refine blk_drewN ?_ _ | refine blk_drew ?_ | refine blk_alloc ?_ _)); refine blk_far ?_ NB171_180.out _; (with_reducible repeat (first | refine blk_drewN ?_ _ | refine blk_drew ?_ | refine blk_alloc ?_ _)); exact BK171.out⟩
    have n4_ : Aside0 ((((((w23.setCell ⟨gb180, 0, none⟩ (.slice A179_0 ((rd_T44 l0_3 x4_1).f0).length c179_0)).setCell ⟨gb180, 1, none⟩ (.slice A179_1 ((rd_T44 l0_3 x4_1).f1).length c179_1)).setCell ⟨gb180, 2, none⟩ (.int .i64 ((rd_T44 l0_3 x4_1).f2.f0))).setCell ⟨gb180, 3, none⟩ (.int .i64 ((rd_T44 l0_3 x4_1).f2.f1))).setCell ⟨gb180, 4, none⟩ (.slice A179_4 ((rd_T44 l0_3 x4_1).f2.f2).length c179_4)).heap[gb178]? = some (.cells #[.int .i64 a0_0, .int .i64 a0_1, .slice Ao12 y175.length co12, u179003] 34 (0, 0))) := ⟨by (with_reducible repeat (first | refine blk_drewN ?_ _ | refine blk_drew ?_ | refine blk_alloc ?_ _)); refine blk_far ?_ NB178_180.out _; (with_reducible repeat (first | refine blk_drewN ?_ _ | refine blk_drew ?_ | refine blk_alloc ?_ _)); refine blk_far ?_ NB178_180.out _; (with_reducible repeat (first | refine blk_drewN ?_ _ | refine blk_drew ?_ | refine blk_alloc ?_ _)); refine blk_far ?_ NB178_180.out _; (with_reducible repeat (first | refine blk_drewN ?_ _ | refine blk_drew ?_ | refine blk_alloc ?_ _)); refine blk_far ?_ NB178_180.out _; (with_reducible repeat (first | refine blk_drewN ?_ _ | refine blk_drew ?_ | refine blk_alloc ?_ _)); refine blk_far ?_ NB178_180.out _; (with_reducible repeat (first | refine blk_drewN ?_ _ | refine blk_drew ?_ | refine blk_alloc ?_ _)); exact BK178.out⟩
    have n5_ : Aside0 ((((((w23.setCell ⟨gb180, 0, none⟩ (.slice A179_0 ((rd_T44 l0_3 x4_1).f0).length c179_0)).setCell ⟨gb180, 1, none⟩ (.slice A179_1 ((rd_T44 l0_3 x4_1).f1).length c179_1)).setCell ⟨gb180, 2, none⟩ (.int .i64 ((rd_T44 l0_3 x4_1).f2.f0))).setCell ⟨gb180, 3, none⟩ (.int .i64 ((rd_T44 l0_3 x4_1).f2.f1))).setCell ⟨gb180, 4, none⟩ (.slice A179_4 ((rd_T44 l0_3 x4_1).f2.f2).length c179_4)).heap[gb180]? = some (.cells #[.slice A179_0 ((rd_T44 l0_3 x4_1).f0).length c179_0, .slice A179_1 ((rd_T44 l0_3 x4_1).f1).length c179_1, .int .i64 ((rd_T44 l0_3 x4_1).f2.f0), .int .i64 ((rd_T44 l0_3 x4_1).f2.f1), .slice A179_4 ((rd_T44 l0_3 x4_1).f2.f2).length c179_4] 44 (0, 0))) := ⟨by (with_reducible repeat (first | refine blk_drewN ?_ _ | refine blk_drew ?_ | refine blk_alloc ?_ _)); refine blk_put (cs := #[.slice A179_0 ((rd_T44 l0_3 x4_1).f0).length c179_0, .slice A179_1 ((rd_T44 l0_3 x4_1).f1).length c179_1, .int .i64 ((rd_T44 l0_3 x4_1).f2.f0), .int .i64 ((rd_T44 l0_3 x4_1).f2.f1), .slice none 0 0]) ?_ 4 _ rfl; (with_reducible repeat (first | refine blk_drewN ?_ _ | refine blk_drew ?_ | refine blk_alloc ?_ _)); refine blk_put (cs := #[.slice A179_0 ((rd_T44 l0_3 x4_1).f0).length c179_0, .slice A179_1 ((rd_T44 l0_3 x4_1).f1).length c179_1, .int .i64 ((rd_T44 l0_3 x4_1).f2.f0), .int .i64 0, .slice none 0 0]) ?_ 3 _ rfl; (with_reducible repeat (first | refine blk_drewN ?_ _ | refine blk_drew ?_ | refine blk_alloc ?_ _)); refine blk_put (cs := #[.slice A179_0 ((rd_T44 l0_3 x4_1).f0).length c179_0, .slice A179_1 ((rd_T44 l0_3 x4_1).f1).length c179_1, .int .i64 0, .int .i64 0, .slice none 0 0]) ?_ 2 _ rfl; (with_reducible repeat (first | refine blk_drewN ?_ _ | refine blk_drew ?_ | refine blk_alloc ?_ _)); refine blk_put (cs := #[.slice A179_0 ((rd_T44 l0_3 x4_1).f0).length c179_0, .slice none 0 0, .int .i64 0, .int .i64 0, .slice none 0 0]) ?_ 1 _ rfl; (with_reducible repeat (first | refine blk_drewN ?_ _ | refine blk_drew ?_ | refine blk_alloc ?_ _)); refine blk_put (cs := #[.slice none 0 0, .slice none 0 0, .int .i64 0, .int .i64 0, .slice none 0 0]) ?_ 0 _ rfl; (with_reducible repeat (first | refine blk_drewN ?_ _ | refine blk_drew ?_ | refine blk_alloc ?_ _)); exact BK180.out⟩
    have n6_ : Aside0 (Below w.heap.size w (((((w23.setCell ⟨gb180, 0, none⟩ (.slice A179_0 ((rd_T44 l0_3 x4_1).f0).length c179_0)).setCell ⟨gb180, 1, none⟩ (.slice A179_1 ((rd_T44 l0_3 x4_1).f1).length c179_1)).setCell ⟨gb180, 2, none⟩ (.int .i64 ((rd_T44 l0_3 x4_1).f2.f0))).setCell ⟨gb180, 3, none⟩ (.int .i64 ((rd_T44 l0_3 x4_1).f2.f1))).setCell ⟨gb180, 4, none⟩ (.slice A179_4 ((rd_T44 l0_3 x4_1).f2.f2).length c179_4))) := ⟨by repeat (first | (with_reducible first | exact HB.out | apply below_alloc | apply pw_below_drewN | apply below_drew1 | refine below_set ?_ GE170.out | refine below_set ?_ GE171.out | refine below_set ?_ GE178.out | refine below_set ?_ GE180.out) | exact HB.out)⟩
    (try clear HO_179002)
    (try clear HO_179003)
    (try clear BK170)
    (try clear BK171)
    (try clear BK178)
    (try clear BK180)
    (try clear HB)
    generalize (((((w23.setCell ⟨gb180, 0, none⟩ (.slice A179_0 ((rd_T44 l0_3 x4_1).f0).length c179_0)).setCell ⟨gb180, 1, none⟩ (.slice A179_1 ((rd_T44 l0_3 x4_1).f1).length c179_1)).setCell ⟨gb180, 2, none⟩ (.int .i64 ((rd_T44 l0_3 x4_1).f2.f0))).setCell ⟨gb180, 3, none⟩ (.int .i64 ((rd_T44 l0_3 x4_1).f2.f1))).setCell ⟨gb180, 4, none⟩ (.slice A179_4 ((rd_T44 l0_3 x4_1).f2.f2).length c179_4)) = w28 at n0_ n1_ n2_ n3_ n4_ n5_ n6_ ⊢
    have HO_179002 := n0_
    have HO_179003 := n1_
    have BK170 := n2_
    have BK171 := n3_
    have BK178 := n4_
    have BK180 := n5_
    have HB := n6_
    clear n0_ n1_ n2_ n3_ n4_ n5_ n6_
    have n0_ := Aside0.mk (R_drew HO_179002.out)
    have n1_ := Aside0.mk (R_drew HO_179003.out)
    have n2_ := Aside0.mk (blk_drew BK170.out)
    have n3_ := Aside0.mk (blk_drew BK171.out)
    have n4_ := Aside0.mk (blk_drew BK178.out)
    have n5_ := Aside0.mk (blk_drew BK180.out)
    have n6_ := Aside0.mk (below_drew1 HB.out)
    clear HO_179002
    clear HO_179003
    clear BK170
    clear BK171
    clear BK178
    clear BK180
    clear HB
    have HO_179002 := n0_
    have HO_179003 := n1_
    have BK170 := n2_
    have BK171 := n3_
    have BK178 := n4_
    have BK180 := n5_
    have HB := n6_
    clear n0_ n1_ n2_ n3_ n4_ n5_ n6_
    refine start_ (n := 15) (S := fun w' => w'.cell? ⟨gb180, 0, none⟩ = some (.slice A179_0 ((rd_T44 l0_3 x4_1).f0).length c179_0) ∧ w'.cell? ⟨gb180, 1, none⟩ = some (.slice A179_1 ((rd_T44 l0_3 x4_1).f1).length c179_1) ∧ w'.cell? ⟨gb180, 2, none⟩ = some (.int .i64 ((rd_T44 l0_3 x4_1).f2.f0)) ∧ w'.cell? ⟨gb180, 3, none⟩ = some (.int .i64 ((rd_T44 l0_3 x4_1).f2.f1)) ∧ w'.cell? ⟨gb180, 4, none⟩ = some (.slice A179_4 ((rd_T44 l0_3 x4_1).f2.f2).length c179_4)) (ds := []) #[false, false, false, false, false, false, false, false, false, false, false, false, false, false, false] (by kernel_rfl) rfl rfl ⟨(blk_cell BK180.out 0).trans rfl, (blk_cell BK180.out 1).trans rfl, (blk_cell BK180.out 2).trans rfl, (blk_cell BK180.out 3).trans rfl, (blk_cell BK180.out 4).trans rfl⟩ (fun hHeld => ?_); refine with_tabW fettleref02_CopyFunc.tab6 fettleref02_CopyFunc.bits6 (fun HT_ HW_ => ?_)
    generalize w28.drew = w29 at HO_179002 HO_179003 BK170 BK171 BK178 BK180 HB hHeld ⊢
    refine pu 0 31 (bt 15 1) HT_.out ?_
    refine pu 1 32 (bt 15 3) HT_.out ?_
    refine pu 3 34 (bt 15 11) HT_.out ?_
    refine pu 4 35 (bt 15 27) HT_.out ?_
    refine pu 7 38 (bt 15 155) HT_.out ?_
    refine pu 8 39 (bt 15 411) HT_.out ?_
    refine tk 2 33 (bt 15 415) HT_.out HW_.out hHeld rfl rfl (by rintro w' ⟨s0, s1, s2, s3, s4⟩; go_simp; with_reducible rfl) ?_
    refine tk 5 36 (bt 15 447) HT_.out HW_.out hHeld rfl rfl (by rintro w' ⟨s0, s1, s2, s3, s4⟩; go_simp; with_reducible rfl) ?_
    refine tk 9 40 (bt 15 959) HT_.out HW_.out hHeld rfl rfl (by rintro w' ⟨s0, s1, s2, s3, s4⟩; go_simp; with_reducible rfl) ?_
    refine join_ (σ := Value × Value × Nat) 1 (bt 15 16383) (fun s_ => [(37, s_.1), (41, s_.2.1), (6, .pointer (some ⟨s_.2.2, 0, none⟩)), (42, .agg #[.int .i64 ((rd_T44 l0_3 x4_1).f2.f0), .int .i64 ((rd_T44 l0_3 x4_1).f2.f1), s_.2.1]), (43, .agg #[.slice none 0 0, .slice none 0 0, .int .i64 ((rd_T44 l0_3 x4_1).f2.f0), .int .i64 ((rd_T44 l0_3 x4_1).f2.f1), s_.2.1])]) (fun s_ w' => (w'.cell? ⟨gb180, 0, none⟩ = some (.slice A179_0 ((rd_T44 l0_3 x4_1).f0).length c179_0) ∧ w'.cell? ⟨gb180, 1, none⟩ = some (.slice A179_1 ((rd_T44 l0_3 x4_1).f1).length c179_1) ∧ w'.cell? ⟨gb180, 2, none⟩ = some (.int .i64 ((rd_T44 l0_3 x4_1).f2.f0)) ∧ w'.cell? ⟨gb180, 3, none⟩ = some (.int .i64 ((rd_T44 l0_3 x4_1).f2.f1)) ∧ w'.cell? ⟨gb180, 4, none⟩ = some (.slice A179_4 ((rd_T44 l0_3 x4_1).f2.f2).length c179_4)) ∧ (Kd.R (Kd.int .i64) 3 w' w.heap.size (fun k_ => some k_ ≠ (.slice Ao12 y175.length co12 : Value).ownBlock) s_.2.1 y184) ∧ (Kd.R (Kd.int .i64) 3 w' w.heap.size (fun k_ => some k_ ≠ (s_.2.1 : Value).ownBlock) (.slice Ao12 y175.length co12) y175) ∧ (Kd.R k44 44 w' w.heap.size (fun k_ => some k_ ≠ (s_.2.1 : Value).ownBlock ∧ some k_ ≠ (.slice Ao12 y175.length co12 : Value).ownBlock ∧ k_ ≠ gb180 ∧ k_ ≠ s_.2.2) u179003 x179003_1) ∧ (w'.heap[gb170]? = some (.cells #[.int .i64 a0_0, .int .i64 a0_1, .slice A0_2 l0_2.length c0_2, .slice (some ad179) l0_3.length c0_3] 34 (0, 0))) ∧ (w'.heap[gb171]? = some (.cells #[.int .i64 0, .int .i64 0, .slice none 0 0, .slice none 0 0] 34 (0, 0))) ∧ (w'.heap[gb178]? = some (.cells #[.int .i64 a0_0, .int .i64 a0_1, .slice Ao12 y175.length co12, u179003] 34 (0, 0))) ∧ (w'.heap[gb180]? = some (.cells #[.slice A179_0 ((rd_T44 l0_3 x4_1).f0).length c179_0, .slice A179_1 ((rd_T44 l0_3 x4_1).f1).length c179_1, .int .i64 ((rd_T44 l0_3 x4_1).f2.f0), .int .i64 ((rd_T44 l0_3 x4_1).f2.f1), .slice A179_4 ((rd_T44 l0_3 x4_1).f2.f2).length c179_4] 44 (0, 0))) ∧ (w'.heap[s_.2.2]? = some (.cells #[.slice none 0 0, .slice none 0 0, .int .i64 0, .int .i64 0, .slice none 0 0] 44 (0, 0))) ∧ (w.heap.size ≤ s_.2.2) ∧ (w.heap.size ≤ s_.2.2) ∧ (gb170 ≠ s_.2.2) ∧ (s_.2.2 ≠ gb170) ∧ (gb171 ≠ s_.2.2) ∧ (s_.2.2 ≠ gb171) ∧ (gb178 ≠ s_.2.2) ∧ (s_.2.2 ≠ gb178) ∧ (gb180 ≠ s_.2.2) ∧ (s_.2.2 ≠ gb180) ∧ (Below w.heap.size w w')) ?_ ?_
    rotate_left
    · intro hCont
      refine two_ (i := 6) (j := 13) (Ni := some 37) (Nj := some 6) (bt 15 1023) (bt 15 9151) rfl rfl rfl rfl (two_of HT_.out (by kernel_rfl)) (by decide) (by decide) (fun K hK => ?_) (fun K hK => ?_)
      · skip
        refine Kd.R_lit_step (Kd.int .i64) _ 3 ?hg (N := 37) ?hd (xs := ([] : List Int)) (inner := []) (ok := fun _ => True) (okp := fun _ => True) ?hr ?hp (fun _ hk => hk) trivial (Below.refl _ _) (Nat.le_refl _) (by simp) ?_; (case hd => rfl); (case hg => rfl); (case hr => first | (go_simp; done) | (go_simp; rfl)); (case hp => exact (Reps.none _ _))
        intro v182 w30 ho31 hb hg_ hnew_
        clear hg_ hnew_
        rw [← Ny181.out] at ho31
        have n0_ := Aside0.mk (R_elder' (by (with_reducible repeat (first | apply R_alloc | apply R_drewN | apply R_drew)); exact HO_179002.out) (R_base ho31) hb)
        have n1_ := Aside0.mk (R_elder' (by (with_reducible repeat (first | apply R_alloc | apply R_drewN | apply R_drew)); exact HO_179003.out) (R_base ho31) hb)
        have n2_ := Aside0.mk (Kd.R_lower (R_new' ho31 (R_lt (by (with_reducible repeat (first | apply R_alloc | apply R_drewN | apply R_drew)); exact HO_179002.out))) (below_size (by repeat with_reducible first | exact HB.out | apply below_alloc | apply pw_below_drewN | apply below_drew1 | refine below_set ?_ GE170.out | refine below_set ?_ GE171.out | refine below_set ?_ GE178.out | refine below_set ?_ GE180.out)))
        have n3_ := Aside0.mk (blk_below (g := gb170) (o := .cells #[.int .i64 a0_0, .int .i64 a0_1, .slice A0_2 l0_2.length c0_2, .slice (some ad179) l0_3.length c0_3] 34 (0, 0)) (by (with_reducible repeat (first | refine blk_drewN ?_ _ | refine blk_drew ?_ | refine blk_alloc ?_ _)); exact BK170.out) hb)
        have n4_ := Aside0.mk (blk_below (g := gb171) (o := .cells #[.int .i64 0, .int .i64 0, .slice none 0 0, .slice none 0 0] 34 (0, 0)) (by (with_reducible repeat (first | refine blk_drewN ?_ _ | refine blk_drew ?_ | refine blk_alloc ?_ _)); exact BK171.out) hb)
        have n5_ := Aside0.mk (blk_below (g := gb178) (o := .cells #[.int .i64 a0_0, .int .i64 a0_1, .slice Ao12 y175.length co12, u179003] 34 (0, 0)) (by (with_reducible repeat (first | refine blk_drewN ?_ _ | refine blk_drew ?_ | refine blk_alloc ?_ _)); exact BK178.out) hb)
        have n6_ := Aside0.mk (blk_below (g := gb180) (o := .cells #[.slice A179_0 ((rd_T44 l0_3 x4_1).f0).length c179_0, .slice A179_1 ((rd_T44 l0_3 x4_1).f1).length c179_1, .int .i64 ((rd_T44 l0_3 x4_1).f2.f0), .int .i64 ((rd_T44 l0_3 x4_1).f2.f1), .slice A179_4 ((rd_T44 l0_3 x4_1).f2.f2).length c179_4] 44 (0, 0)) (by (with_reducible repeat (first | refine blk_drewN ?_ _ | refine blk_drew ?_ | refine blk_alloc ?_ _)); exact BK180.out) hb)
        have n7_ := Aside0.mk (below_step (by repeat with_reducible first | exact HB.out | apply below_alloc | apply pw_below_drewN | apply below_drew1 | refine below_set ?_ GE170.out | refine below_set ?_ GE171.out | refine below_set ?_ GE178.out | refine below_set ?_ GE180.out) hb)
        clear HO_179002
        clear HO_179003
        clear BK170
        clear BK171
        clear BK178
        clear BK180
        clear HB
        have HO_179002 := n0_
        have HO_179003 := n1_
        have HO183 := n2_
        have BK170 := n3_
        have BK171 := n4_
        have BK178 := n5_
        have BK180 := n6_
        have HB := n7_
        clear n0_ n1_ n2_ n3_ n4_ n5_ n6_ n7_
        clear hb ho31
        refine hK.out _ _ ⟨(blk_cell BK180.out 0).trans rfl, (blk_cell BK180.out 1).trans rfl, (blk_cell BK180.out 2).trans rfl, (blk_cell BK180.out 3).trans rfl, (blk_cell BK180.out 4).trans rfl⟩ (fun hHeld => ?_)
        clear hK K
        refine norm_ (a' := ?_) ?_ ?_
        rotate_left
        · show Act.put _ (some 37) _ = _
          simp only [Act.put, List.setIfInBounds_toArray, List.set_cons_zero, List.set_cons_succ, i64_w, i32_w]
          rfl
        refine two_ (i := 10) (j := 13) (Ni := some 41) (Nj := some 6) (bt 15 2047) (bt 15 9215) rfl rfl rfl rfl (two_of HT_.out (by kernel_rfl)) (by decide) (by decide) (fun K hK => ?_) (fun K hK => ?_)
        · skip
          refine Kd.R_append_rows_step (Kd.int .i64) (w0 := w) w.heap.size (by rfl) (.tmp 37) (.tmp 40) 31 3 (.int .i64 0) 8 rfl Tryd.underlying31 info3 rfl (by decide) (by omega) v182 y181 ((rd_T44 l0_3 x4_1).f2.f2) _ _ _ (fun k_ => some k_ ≠ (.slice Ao12 y175.length co12 : Value).ownBlock) (fun _ => False) rfl rfl ?aO ?aR (fun _ _ h => h) (fun _ h => h.elim) ?aF ?aB ?aS ?aL ?_
          (case aR => repeat (first | exact (C_below HR179_4.out HB.out) | (with_reducible refine C_alloc ?_ _) | (with_reducible refine C_drewN ?_ _) | (with_reducible refine C_drew ?_)))
          (case aB => exact (by repeat with_reducible first | exact HB.out | apply below_alloc | apply pw_below_drewN | apply below_drew1 | refine below_set ?_ GE170.out | refine below_set ?_ GE171.out | refine below_set ?_ GE178.out | refine below_set ?_ GE180.out))
          (case aF => exact (fun k_ hk => Kd.fresh' (R_lt (by (with_reducible repeat (first | apply R_alloc | apply R_drewN | apply R_drew)); exact HO_179002.out)) k_ hk))
          (case aO => exact (by (with_reducible repeat (first | apply R_alloc | apply R_drewN | apply R_drew)); exact R_mono HO183.out (fun _ hk => hk.2)))
          (case aS => exact (below_size (by repeat with_reducible first | exact HB.out | apply below_alloc | apply pw_below_drewN | apply below_drew1 | refine below_set ?_ GE170.out | refine below_set ?_ GE171.out | refine below_set ?_ GE178.out | refine below_set ?_ GE180.out)))
          (case aL => have := LMc19.out; omega)
          intro v185 w32 ho hb hg hat
          rw [← Ny184.out] at ho
          have n0_ := Aside0.mk (Kd.R_after (ok := (fun _ => True)) (by (with_reducible repeat (first | apply R_alloc | apply R_drewN | apply R_drew)); exact HO_179002.out) hg hat)
          have n1_ := Aside0.mk (Kd.R_after (ok := (fun k_ => some k_ ≠ (.slice Ao12 y175.length co12 : Value).ownBlock ∧ k_ ≠ gb180)) (by (with_reducible repeat (first | apply R_alloc | apply R_drewN | apply R_drew)); exact HO_179003.out) hg hat)
          have n2_ := Aside0.mk (blk_grown (g := gb170) (o := .cells #[.int .i64 a0_0, .int .i64 a0_1, .slice A0_2 l0_2.length c0_2, .slice (some ad179) l0_3.length c0_3] 34 (0, 0)) (by (with_reducible repeat (first | refine blk_drewN ?_ _ | refine blk_drew ?_ | refine blk_alloc ?_ _)); exact BK170.out) hg (Kd.R_ne HO183.out BK170.out (by decide)))
          have n3_ := Aside0.mk (blk_grown (g := gb171) (o := .cells #[.int .i64 0, .int .i64 0, .slice none 0 0, .slice none 0 0] 34 (0, 0)) (by (with_reducible repeat (first | refine blk_drewN ?_ _ | refine blk_drew ?_ | refine blk_alloc ?_ _)); exact BK171.out) hg (Kd.R_ne HO183.out BK171.out (by decide)))
          have n4_ := Aside0.mk (blk_grown (g := gb178) (o := .cells #[.int .i64 a0_0, .int .i64 a0_1, .slice Ao12 y175.length co12, u179003] 34 (0, 0)) (by (with_reducible repeat (first | refine blk_drewN ?_ _ | refine blk_drew ?_ | refine blk_alloc ?_ _)); exact BK178.out) hg (Kd.R_ne HO183.out BK178.out (by decide)))
          have n5_ := Aside0.mk (blk_grown (g := gb180) (o := .cells #[.slice A179_0 ((rd_T44 l0_3 x4_1).f0).length c179_0, .slice A179_1 ((rd_T44 l0_3 x4_1).f1).length c179_1, .int .i64 ((rd_T44 l0_3 x4_1).f2.f0), .int .i64 ((rd_T44 l0_3 x4_1).f2.f1), .slice A179_4 ((rd_T44 l0_3 x4_1).f2.f2).length c179_4] 44 (0, 0)) (by (with_reducible repeat (first | refine blk_drewN ?_ _ | refine blk_drew ?_ | refine blk_alloc ?_ _)); exact BK180.out) hg (Kd.R_ne HO183.out BK180.out (by decide)))
          have n6_ := Aside0.mk (hb)
          have n7_ := Aside0.mk (ho)
          clear HO_179002
          clear HO_179003
          clear BK170
          clear BK171
          clear BK178
          clear BK180
          clear HB
          clear HO183
          have HO_179002 := n0_
          have HO_179003 := n1_
          have BK170 := n2_
          have BK171 := n3_
          have BK178 := n4_
          have BK180 := n5_
          have HB := n6_
          have HO186 := n7_
          clear n0_ n1_ n2_ n3_ n4_ n5_ n6_ n7_
          clear ho hb hg hat
          obtain ⟨Ao33, co33, eo33⟩ := Kd.R_slice HO186.out
          (first | subst eo33 | (injection eo33 with f1_ f2_ f3_; have f4_ := f1_.symm; have f5_ := f3_.symm; clear f1_ f2_ f3_; subst f4_; subst f5_))
          refine hK.out _ _ ⟨(blk_cell BK180.out 0).trans rfl, (blk_cell BK180.out 1).trans rfl, (blk_cell BK180.out 2).trans rfl, (blk_cell BK180.out 3).trans rfl, (blk_cell BK180.out 4).trans rfl⟩ (fun hHeld => ?_)
          clear hK K
          refine norm_ (a' := ?_) ?_ ?_
          rotate_left
          · show Act.put _ (some 41) _ = _
            simp only [Act.put, List.setIfInBounds_toArray, List.set_cons_zero, List.set_cons_succ, i64_w, i32_w]
            rfl
          refine pu 11 42 (bt 15 4095) HT_.out ?_
          refine pu 12 43 (bt 15 8191) HT_.out ?_
          refine one_ (i := 13) (N := some 6) (bt 15 16383) rfl rfl (one_of HT_.out (by kernel_rfl)) (by decide) (fun K hK => ?_)
          refine box_step ?hg (N := 6) ?hd (cs := #[.slice none 0 0, .slice none 0 0, .int .i64 0, .int .i64 0, .slice none 0 0]) (t := 44) ?hr ?_; (case hd => rfl); (case hg => rfl); (case hr => first | (go_simp; done) | (go_simp; rfl))
          intro gb187 hg w34 hbox hb
          have n0_ := Aside0.mk (Kd.R_below (by (with_reducible repeat (first | apply R_alloc | apply R_drewN | apply R_drew)); exact HO_179002.out) hb)
          have n1_ := Aside0.mk (Kd.R_below (Kd.R_elderB (by (with_reducible repeat (first | apply R_alloc | apply R_drewN | apply R_drew)); exact HO_179003.out) gb187 (Nat.le_of_eq hg.symm)) hb)
          have n2_ := Aside0.mk (Kd.R_below (by (with_reducible repeat (first | apply R_alloc | apply R_drewN | apply R_drew)); exact HO186.out) hb)
          have n3_ := Aside0.mk (blk_below (g := gb170) (o := .cells #[.int .i64 a0_0, .int .i64 a0_1, .slice A0_2 l0_2.length c0_2, .slice (some ad179) l0_3.length c0_3] 34 (0, 0)) (by (with_reducible repeat (first | refine blk_drewN ?_ _ | refine blk_drew ?_ | refine blk_alloc ?_ _)); exact BK170.out) hb)
          have n4_ := Aside0.mk (blk_below (g := gb171) (o := .cells #[.int .i64 0, .int .i64 0, .slice none 0 0, .slice none 0 0] 34 (0, 0)) (by (with_reducible repeat (first | refine blk_drewN ?_ _ | refine blk_drew ?_ | refine blk_alloc ?_ _)); exact BK171.out) hb)
          have n5_ := Aside0.mk (blk_below (g := gb178) (o := .cells #[.int .i64 a0_0, .int .i64 a0_1, .slice Ao12 y175.length co12, u179003] 34 (0, 0)) (by (with_reducible repeat (first | refine blk_drewN ?_ _ | refine blk_drew ?_ | refine blk_alloc ?_ _)); exact BK178.out) hb)
          have n6_ := Aside0.mk (blk_below (g := gb180) (o := .cells #[.slice A179_0 ((rd_T44 l0_3 x4_1).f0).length c179_0, .slice A179_1 ((rd_T44 l0_3 x4_1).f1).length c179_1, .int .i64 ((rd_T44 l0_3 x4_1).f2.f0), .int .i64 ((rd_T44 l0_3 x4_1).f2.f1), .slice A179_4 ((rd_T44 l0_3 x4_1).f2.f2).length c179_4] 44 (0, 0)) (by (with_reducible repeat (first | refine blk_drewN ?_ _ | refine blk_drew ?_ | refine blk_alloc ?_ _)); exact BK180.out) hb)
          have n7_ := Aside0.mk (below_step (by repeat with_reducible first | exact HB.out | apply below_alloc | apply pw_below_drewN | apply below_drew1 | refine below_set ?_ GE170.out | refine below_set ?_ GE171.out | refine below_set ?_ GE178.out | refine below_set ?_ GE180.out) hb)
          have n8_ := Aside0.mk (hbox)
          have n9_ := Aside0.mk ((by rw [hg]; exact (below_size (by repeat with_reducible first | exact HB.out | apply below_alloc | apply pw_below_drewN | apply below_drew1 | refine below_set ?_ GE170.out | refine below_set ?_ GE171.out | refine below_set ?_ GE178.out | refine below_set ?_ GE180.out)) : w.heap.size ≤ gb187))
          have n10_ := Aside0.mk ((by rw [hg]; exact (below_size (by repeat with_reducible first | exact HB.out | apply below_alloc | apply pw_below_drewN | apply below_drew1 | refine below_set ?_ GE170.out | refine below_set ?_ GE171.out | refine below_set ?_ GE178.out | refine below_set ?_ GE180.out)) : w.heap.size ≤ gb187))
          have n11_ := Aside0.mk ((by rw [hg]; exact Nat.ne_of_lt (blk_lt (g := gb170) (o := .cells #[.int .i64 a0_0, .int .i64 a0_1, .slice A0_2 l0_2.length c0_2, .slice (some ad179) l0_3.length c0_3] 34 (0, 0)) (by (with_reducible repeat (first | refine blk_drewN ?_ _ | refine blk_drew ?_ | refine blk_alloc ?_ _)); exact BK170.out)) : gb170 ≠ gb187))
          have n12_ := Aside0.mk ((by rw [hg]; exact Nat.ne_of_gt (blk_lt (g := gb170) (o := .cells #[.int .i64 a0_0, .int .i64 a0_1, .slice A0_2 l0_2.length c0_2, .slice (some ad179) l0_3.length c0_3] 34 (0, 0)) (by (with_reducible repeat (first | refine blk_drewN ?_ _ | refine blk_drew ?_ | refine blk_alloc ?_ _)); exact BK170.out)) : gb187 ≠ gb170))
          have n13_ := Aside0.mk ((by rw [hg]; exact Nat.ne_of_lt (blk_lt (g := gb171) (o := .cells #[.int .i64 0, .int .i64 0, .slice none 0 0, .slice none 0 0] 34 (0, 0)) (by (with_reducible repeat (first | refine blk_drewN ?_ _ | refine blk_drew ?_ | refine blk_alloc ?_ _)); exact BK171.out)) : gb171 ≠ gb187))
          have n14_ := Aside0.mk ((by rw [hg]; exact Nat.ne_of_gt (blk_lt (g := gb171) (o := .cells #[.int .i64 0, .int .i64 0, .slice none 0 0, .slice none 0 0] 34 (0, 0)) (by (with_reducible repeat (first | refine blk_drewN ?_ _ | refine blk_drew ?_ | refine blk_alloc ?_ _)); exact BK171.out)) : gb187 ≠ gb171))
          have n15_ := Aside0.mk ((by rw [hg]; exact Nat.ne_of_lt (blk_lt (g := gb178) (o := .cells #[.int .i64 a0_0, .int .i64 a0_1, .slice Ao12 y175.length co12, u179003] 34 (0, 0)) (by (with_reducible repeat (first | refine blk_drewN ?_ _ | refine blk_drew ?_ | refine blk_alloc ?_ _)); exact BK178.out)) : gb178 ≠ gb187))
          have n16_ := Aside0.mk ((by rw [hg]; exact Nat.ne_of_gt (blk_lt (g := gb178) (o := .cells #[.int .i64 a0_0, .int .i64 a0_1, .slice Ao12 y175.length co12, u179003] 34 (0, 0)) (by (with_reducible repeat (first | refine blk_drewN ?_ _ | refine blk_drew ?_ | refine blk_alloc ?_ _)); exact BK178.out)) : gb187 ≠ gb178))
          have n17_ := Aside0.mk ((by rw [hg]; exact Nat.ne_of_lt (blk_lt (g := gb180) (o := .cells #[.slice A179_0 ((rd_T44 l0_3 x4_1).f0).length c179_0, .slice A179_1 ((rd_T44 l0_3 x4_1).f1).length c179_1, .int .i64 ((rd_T44 l0_3 x4_1).f2.f0), .int .i64 ((rd_T44 l0_3 x4_1).f2.f1), .slice A179_4 ((rd_T44 l0_3 x4_1).f2.f2).length c179_4] 44 (0, 0)) (by (with_reducible repeat (first | refine blk_drewN ?_ _ | refine blk_drew ?_ | refine blk_alloc ?_ _)); exact BK180.out)) : gb180 ≠ gb187))
          have n18_ := Aside0.mk ((by rw [hg]; exact Nat.ne_of_gt (blk_lt (g := gb180) (o := .cells #[.slice A179_0 ((rd_T44 l0_3 x4_1).f0).length c179_0, .slice A179_1 ((rd_T44 l0_3 x4_1).f1).length c179_1, .int .i64 ((rd_T44 l0_3 x4_1).f2.f0), .int .i64 ((rd_T44 l0_3 x4_1).f2.f1), .slice A179_4 ((rd_T44 l0_3 x4_1).f2.f2).length c179_4] 44 (0, 0)) (by (with_reducible repeat (first | refine blk_drewN ?_ _ | refine blk_drew ?_ | refine blk_alloc ?_ _)); exact BK180.out)) : gb187 ≠ gb180))
          clear HO_179002
          clear HO_179003
          clear HO186
          clear BK170
          clear BK171
          clear BK178
          clear BK180
          clear HB
          have HO_179002 := n0_
          have HO_179003 := n1_
          have HO186 := n2_
          have BK170 := n3_
          have BK171 := n4_
          have BK178 := n5_
          have BK180 := n6_
          have HB := n7_
          have BK187 := n8_
          have GW187 := n9_
          have GE187 := n10_
          have NB170_187 := n11_
          have NB187_170 := n12_
          have NB171_187 := n13_
          have NB187_171 := n14_
          have NB178_187 := n15_
          have NB187_178 := n16_
          have NB180_187 := n17_
          have NB187_180 := n18_
          clear n0_ n1_ n2_ n3_ n4_ n5_ n6_ n7_ n8_ n9_ n10_ n11_ n12_ n13_ n14_ n15_ n16_ n17_ n18_
          clear hb hbox hg
          refine hK.out _ _ ⟨(blk_cell BK180.out 0).trans rfl, (blk_cell BK180.out 1).trans rfl, (blk_cell BK180.out 2).trans rfl, (blk_cell BK180.out 3).trans rfl, (blk_cell BK180.out 4).trans rfl⟩ (fun hHeld => ?_)
          clear hK K
          refine norm_ (a' := ?_) ?_ ?_
          rotate_left
          · show Act.put _ (some 6) _ = _
            simp only [Act.put, List.setIfInBounds_toArray, List.set_cons_zero, List.set_cons_succ, i64_w, i32_w]
            rfl
          exact norm_ (by simp only [putAll, Act.put, List.setIfInBounds_toArray, List.set_cons_zero, List.set_cons_succ]) (hCont (v182, .slice Ao33 y184.length co33, gb187) _ ⟨hHeld, (by (with_reducible repeat (first | apply R_alloc | apply R_drewN | apply R_drew)); exact HO186.out), (by (with_reducible repeat (first | apply R_alloc | apply R_drewN | apply R_drew)); exact R_mono HO_179002.out (fun _ hk => hk.2)), (by (with_reducible repeat (first | apply R_alloc | apply R_drewN | apply R_drew)); exact R_mono HO_179003.out (fun _ hk => ⟨hk.1.2, ⟨hk.1.1.1, ⟨hk.1.1.2, hk.2⟩⟩⟩)), (by (with_reducible repeat (first | refine blk_drewN ?_ _ | refine blk_drew ?_ | refine blk_alloc ?_ _)); exact BK170.out), (by (with_reducible repeat (first | refine blk_drewN ?_ _ | refine blk_drew ?_ | refine blk_alloc ?_ _)); exact BK171.out), (by (with_reducible repeat (first | refine blk_drewN ?_ _ | refine blk_drew ?_ | refine blk_alloc ?_ _)); exact BK178.out), (by (with_reducible repeat (first | refine blk_drewN ?_ _ | refine blk_drew ?_ | refine blk_alloc ?_ _)); exact BK180.out), (by (with_reducible repeat (first | refine blk_drewN ?_ _ | refine blk_drew ?_ | refine blk_alloc ?_ _)); exact BK187.out), GW187.out, GE187.out, NB170_187.out, NB187_170.out, NB171_187.out, NB187_171.out, NB178_187.out, NB187_178.out, NB180_187.out, NB187_180.out, (by repeat with_reducible first | exact HB.out | apply below_alloc | apply pw_below_drewN | apply below_drew1 | refine below_set ?_ GE170.out | refine below_set ?_ GE171.out | refine below_set ?_ GE178.out | refine below_set ?_ GE180.out | refine below_set ?_ GE187.out)⟩)
        skip
        refine box_step ?hg (N := 6) ?hd (cs := #[.slice none 0 0, .slice none 0 0, .int .i64 0, .int .i64 0, .slice none 0 0]) (t := 44) ?hr ?_; (case hd => rfl); (case hg => rfl); (case hr => first | (go_simp; done) | (go_simp; rfl))
        intro gb187 hg w32 hbox hb
        have n0_ := Aside0.mk (Kd.R_below (by (with_reducible repeat (first | apply R_alloc | apply R_drewN | apply R_drew)); exact HO_179002.out) hb)
        have n1_ := Aside0.mk (Kd.R_below (Kd.R_elderB (by (with_reducible repeat (first | apply R_alloc | apply R_drewN | apply R_drew)); exact HO_179003.out) gb187 (Nat.le_of_eq hg.symm)) hb)
        have n2_ := Aside0.mk (Kd.R_below (by (with_reducible repeat (first | apply R_alloc | apply R_drewN | apply R_drew)); exact HO183.out) hb)
        have n3_ := Aside0.mk (blk_below (g := gb170) (o := .cells #[.int .i64 a0_0, .int .i64 a0_1, .slice A0_2 l0_2.length c0_2, .slice (some ad179) l0_3.length c0_3] 34 (0, 0)) (by (with_reducible repeat (first | refine blk_drewN ?_ _ | refine blk_drew ?_ | refine blk_alloc ?_ _)); exact BK170.out) hb)
        have n4_ := Aside0.mk (blk_below (g := gb171) (o := .cells #[.int .i64 0, .int .i64 0, .slice none 0 0, .slice none 0 0] 34 (0, 0)) (by (with_reducible repeat (first | refine blk_drewN ?_ _ | refine blk_drew ?_ | refine blk_alloc ?_ _)); exact BK171.out) hb)
        have n5_ := Aside0.mk (blk_below (g := gb178) (o := .cells #[.int .i64 a0_0, .int .i64 a0_1, .slice Ao12 y175.length co12, u179003] 34 (0, 0)) (by (with_reducible repeat (first | refine blk_drewN ?_ _ | refine blk_drew ?_ | refine blk_alloc ?_ _)); exact BK178.out) hb)
        have n6_ := Aside0.mk (blk_below (g := gb180) (o := .cells #[.slice A179_0 ((rd_T44 l0_3 x4_1).f0).length c179_0, .slice A179_1 ((rd_T44 l0_3 x4_1).f1).length c179_1, .int .i64 ((rd_T44 l0_3 x4_1).f2.f0), .int .i64 ((rd_T44 l0_3 x4_1).f2.f1), .slice A179_4 ((rd_T44 l0_3 x4_1).f2.f2).length c179_4] 44 (0, 0)) (by (with_reducible repeat (first | refine blk_drewN ?_ _ | refine blk_drew ?_ | refine blk_alloc ?_ _)); exact BK180.out) hb)
        have n7_ := Aside0.mk (below_step (by repeat with_reducible first | exact HB.out | apply below_alloc | apply pw_below_drewN | apply below_drew1 | refine below_set ?_ GE170.out | refine below_set ?_ GE171.out | refine below_set ?_ GE178.out | refine below_set ?_ GE180.out) hb)
        have n8_ := Aside0.mk (hbox)
        have n9_ := Aside0.mk ((by rw [hg]; exact (below_size (by repeat with_reducible first | exact HB.out | apply below_alloc | apply pw_below_drewN | apply below_drew1 | refine below_set ?_ GE170.out | refine below_set ?_ GE171.out | refine below_set ?_ GE178.out | refine below_set ?_ GE180.out)) : w.heap.size ≤ gb187))
        have n10_ := Aside0.mk ((by rw [hg]; exact (below_size (by repeat with_reducible first | exact HB.out | apply below_alloc | apply pw_below_drewN | apply below_drew1 | refine below_set ?_ GE170.out | refine below_set ?_ GE171.out | refine below_set ?_ GE178.out | refine below_set ?_ GE180.out)) : w.heap.size ≤ gb187))
        have n11_ := Aside0.mk ((by rw [hg]; exact Nat.ne_of_lt (blk_lt (g := gb170) (o := .cells #[.int .i64 a0_0, .int .i64 a0_1, .slice A0_2 l0_2.length c0_2, .slice (some ad179) l0_3.length c0_3] 34 (0, 0)) (by (with_reducible repeat (first | refine blk_drewN ?_ _ | refine blk_drew ?_ | refine blk_alloc ?_ _)); exact BK170.out)) : gb170 ≠ gb187))
        have n12_ := Aside0.mk ((by rw [hg]; exact Nat.ne_of_gt (blk_lt (g := gb170) (o := .cells #[.int .i64 a0_0, .int .i64 a0_1, .slice A0_2 l0_2.length c0_2, .slice (some ad179) l0_3.length c0_3] 34 (0, 0)) (by (with_reducible repeat (first | refine blk_drewN ?_ _ | refine blk_drew ?_ | refine blk_alloc ?_ _)); exact BK170.out)) : gb187 ≠ gb170))
        have n13_ := Aside0.mk ((by rw [hg]; exact Nat.ne_of_lt (blk_lt (g := gb171) (o := .cells #[.int .i64 0, .int .i64 0, .slice none 0 0, .slice none 0 0] 34 (0, 0)) (by (with_reducible repeat (first | refine blk_drewN ?_ _ | refine blk_drew ?_ | refine blk_alloc ?_ _)); exact BK171.out)) : gb171 ≠ gb187))
        have n14_ := Aside0.mk ((by rw [hg]; exact Nat.ne_of_gt (blk_lt (g := gb171) (o := .cells #[.int .i64 0, .int .i64 0, .slice none 0 0, .slice none 0 0] 34 (0, 0)) (by (with_reducible repeat (first | refine blk_drewN ?_ _ | refine blk_drew ?_ | refine blk_alloc ?_ _)); exact BK171.out)) : gb187 ≠ gb171))
        have n15_ := Aside0.mk ((by rw [hg]; exact Nat.ne_of_lt (blk_lt (g := gb178) (o := .cells #[.int .i64 a0_0, .int .i64 a0_1, .slice Ao12 y175.length co12, u179003] 34 (0, 0)) (by (with_reducible repeat (first | refine blk_drewN ?_ _ | refine blk_drew ?_ | refine blk_alloc ?_ _)); exact BK178.out)) : gb178 ≠ gb187))
        have n16_ := Aside0.mk ((by rw [hg]; exact Nat.ne_of_gt (blk_lt (g := gb178) (o := .cells #[.int .i64 a0_0, .int .i64 a0_1, .slice Ao12 y175.length co12, u179003] 34 (0, 0)) (by (with_reducible repeat (first | refine blk_drewN ?_ _ | refine blk_drew ?_ | refine blk_alloc ?_ _)); exact BK178.out)) : gb187 ≠ gb178))
        have n17_ := Aside0.mk ((by rw [hg]; exact Nat.ne_of_lt (blk_lt (g := gb180) (o := .cells #[.slice A179_0 ((rd_T44 l0_3 x4_1).f0).length c179_0, .slice A179_1 ((rd_T44 l0_3 x4_1).f1).length c179_1, .int .i64 ((rd_T44 l0_3 x4_1).f2.f0), .int .i64 ((rd_T44 l0_3 x4_1).f2.f1), .slice A179_4 ((rd_T44 l0_3 x4_1).f2.f2).length c179_4] 44 (0, 0)) (by (with_reducible repeat (first | refine blk_drewN ?_ _ | refine blk_drew ?_ | refine blk_alloc ?_ _)); exact BK180.out)) : gb180 ≠ gb187))
        have n18_ := Aside0.mk ((by rw [hg]; exact Nat.ne_of_gt (blk_lt (g := gb180) (o := .cells #[.slice A179_0 ((rd_T44 l0_3 x4_1).f0).length c179_0, .slice A179_1 ((rd_T44 l0_3 x4_1).f1).length c179_1, .int .i64 ((rd_T44 l0_3 x4_1).f2.f0), .int .i64 ((rd_T44 l0_3 x4_1).f2.f1), .slice A179_4 ((rd_T44 l0_3 x4_1).f2.f2).length c179_4] 44 (0, 0)) (by (with_reducible repeat (first | refine blk_drewN ?_ _ | refine blk_drew ?_ | refine blk_alloc ?_ _)); exact BK180.out)) : gb187 ≠ gb180))
        clear HO_179002
        clear HO_179003
        clear HO183
        clear BK170
        clear BK171
        clear BK178
        clear BK180
        clear HB
        have HO_179002 := n0_
        have HO_179003 := n1_
        have HO183 := n2_
        have BK170 := n3_
        have BK171 := n4_
        have BK178 := n5_
        have BK180 := n6_
        have HB := n7_
        have BK187 := n8_
        have GW187 := n9_
        have GE187 := n10_
        have NB170_187 := n11_
        have NB187_170 := n12_
        have NB171_187 := n13_
        have NB187_171 := n14_
        have NB178_187 := n15_
        have NB187_178 := n16_
        have NB180_187 := n17_
        have NB187_180 := n18_
        clear n0_ n1_ n2_ n3_ n4_ n5_ n6_ n7_ n8_ n9_ n10_ n11_ n12_ n13_ n14_ n15_ n16_ n17_ n18_
        clear hb hbox hg
        refine hK.out _ _ ⟨(blk_cell BK180.out 0).trans rfl, (blk_cell BK180.out 1).trans rfl, (blk_cell BK180.out 2).trans rfl, (blk_cell BK180.out 3).trans rfl, (blk_cell BK180.out 4).trans rfl⟩ (fun hHeld => ?_)
        clear hK K
        refine norm_ (a' := ?_) ?_ ?_
        rotate_left
        · show Act.put _ (some 6) _ = _
          simp only [Act.put, List.setIfInBounds_toArray, List.set_cons_zero, List.set_cons_succ, i64_w, i32_w]
          rfl
        refine one_ (i := 10) (N := some 41) (bt 15 10239) rfl rfl (one_of HT_.out (by kernel_rfl)) (by decide) (fun K hK => ?_)
        refine Kd.R_append_rows_step (Kd.int .i64) (w0 := w) w.heap.size (by rfl) (.tmp 37) (.tmp 40) 31 3 (.int .i64 0) 8 rfl Tryd.underlying31 info3 rfl (by decide) (by omega) v182 y181 ((rd_T44 l0_3 x4_1).f2.f2) _ _ _ (fun k_ => some k_ ≠ (.slice Ao12 y175.length co12 : Value).ownBlock) (fun _ => False) rfl rfl ?aO ?aR (fun _ _ h => h) (fun _ h => h.elim) ?aF ?aB ?aS ?aL ?_
        (case aR => repeat (first | exact (C_below HR179_4.out HB.out) | (with_reducible refine C_alloc ?_ _) | (with_reducible refine C_drewN ?_ _) | (with_reducible refine C_drew ?_)))
        (case aB => exact (by repeat with_reducible first | exact HB.out | apply below_alloc | apply pw_below_drewN | apply below_drew1 | refine below_set ?_ GE170.out | refine below_set ?_ GE171.out | refine below_set ?_ GE178.out | refine below_set ?_ GE180.out | refine below_set ?_ GE187.out))
        (case aF => exact (fun k_ hk => Kd.fresh' (R_lt (by (with_reducible repeat (first | apply R_alloc | apply R_drewN | apply R_drew)); exact HO_179002.out)) k_ hk))
        (case aO => exact (by (with_reducible repeat (first | apply R_alloc | apply R_drewN | apply R_drew)); exact R_mono HO183.out (fun _ hk => hk.2)))
        (case aS => exact (below_size (by repeat with_reducible first | exact HB.out | apply below_alloc | apply pw_below_drewN | apply below_drew1 | refine below_set ?_ GE170.out | refine below_set ?_ GE171.out | refine below_set ?_ GE178.out | refine below_set ?_ GE180.out | refine below_set ?_ GE187.out)))
        (case aL => have := LMc19.out; omega)
        intro v185 w33 ho hb hg hat
        rw [← Ny184.out] at ho
        have n0_ := Aside0.mk (Kd.R_after (ok := (fun _ => True)) (by (with_reducible repeat (first | apply R_alloc | apply R_drewN | apply R_drew)); exact HO_179002.out) hg hat)
        have n1_ := Aside0.mk (Kd.R_after (ok := (fun k_ => some k_ ≠ (.slice Ao12 y175.length co12 : Value).ownBlock ∧ k_ ≠ gb180 ∧ k_ ≠ gb187)) (by (with_reducible repeat (first | apply R_alloc | apply R_drewN | apply R_drew)); exact R_mono HO_179003.out (fun _ hk => ⟨⟨hk.1.1.1, ⟨hk.1.1.2, hk.2⟩⟩, hk.1.2⟩)) hg hat)
        have n2_ := Aside0.mk (blk_grown (g := gb170) (o := .cells #[.int .i64 a0_0, .int .i64 a0_1, .slice A0_2 l0_2.length c0_2, .slice (some ad179) l0_3.length c0_3] 34 (0, 0)) (by (with_reducible repeat (first | refine blk_drewN ?_ _ | refine blk_drew ?_ | refine blk_alloc ?_ _)); exact BK170.out) hg (Kd.R_ne HO183.out BK170.out (by decide)))
        have n3_ := Aside0.mk (blk_grown (g := gb171) (o := .cells #[.int .i64 0, .int .i64 0, .slice none 0 0, .slice none 0 0] 34 (0, 0)) (by (with_reducible repeat (first | refine blk_drewN ?_ _ | refine blk_drew ?_ | refine blk_alloc ?_ _)); exact BK171.out) hg (Kd.R_ne HO183.out BK171.out (by decide)))
        have n4_ := Aside0.mk (blk_grown (g := gb178) (o := .cells #[.int .i64 a0_0, .int .i64 a0_1, .slice Ao12 y175.length co12, u179003] 34 (0, 0)) (by (with_reducible repeat (first | refine blk_drewN ?_ _ | refine blk_drew ?_ | refine blk_alloc ?_ _)); exact BK178.out) hg (Kd.R_ne HO183.out BK178.out (by decide)))
        have n5_ := Aside0.mk (blk_grown (g := gb180) (o := .cells #[.slice A179_0 ((rd_T44 l0_3 x4_1).f0).length c179_0, .slice A179_1 ((rd_T44 l0_3 x4_1).f1).length c179_1, .int .i64 ((rd_T44 l0_3 x4_1).f2.f0), .int .i64 ((rd_T44 l0_3 x4_1).f2.f1), .slice A179_4 ((rd_T44 l0_3 x4_1).f2.f2).length c179_4] 44 (0, 0)) (by (with_reducible repeat (first | refine blk_drewN ?_ _ | refine blk_drew ?_ | refine blk_alloc ?_ _)); exact BK180.out) hg (Kd.R_ne HO183.out BK180.out (by decide)))
        have n6_ := Aside0.mk (blk_grown (g := gb187) (o := .cells #[.slice none 0 0, .slice none 0 0, .int .i64 0, .int .i64 0, .slice none 0 0] 44 (0, 0)) (by (with_reducible repeat (first | refine blk_drewN ?_ _ | refine blk_drew ?_ | refine blk_alloc ?_ _)); exact BK187.out) hg (Kd.R_ne HO183.out BK187.out (by decide)))
        have n7_ := Aside0.mk (hb)
        have n8_ := Aside0.mk (ho)
        clear HO_179002
        clear HO_179003
        clear BK170
        clear BK171
        clear BK178
        clear BK180
        clear BK187
        clear HB
        clear HO183
        have HO_179002 := n0_
        have HO_179003 := n1_
        have BK170 := n2_
        have BK171 := n3_
        have BK178 := n4_
        have BK180 := n5_
        have BK187 := n6_
        have HB := n7_
        have HO186 := n8_
        clear n0_ n1_ n2_ n3_ n4_ n5_ n6_ n7_ n8_
        clear ho hb hg hat
        obtain ⟨Ao34, co34, eo34⟩ := Kd.R_slice HO186.out
        (first | subst eo34 | (injection eo34 with f1_ f2_ f3_; have f4_ := f1_.symm; have f5_ := f3_.symm; clear f1_ f2_ f3_; subst f4_; subst f5_))
        refine hK.out _ _ ⟨(blk_cell BK180.out 0).trans rfl, (blk_cell BK180.out 1).trans rfl, (blk_cell BK180.out 2).trans rfl, (blk_cell BK180.out 3).trans rfl, (blk_cell BK180.out 4).trans rfl⟩ (fun hHeld => ?_)
        clear hK K
        refine norm_ (a' := ?_) ?_ ?_
        rotate_left
        · show Act.put _ (some 41) _ = _
          simp only [Act.put, List.setIfInBounds_toArray, List.set_cons_zero, List.set_cons_succ, i64_w, i32_w]
          rfl
        refine pu 11 42 (bt 15 12287) HT_.out ?_
        refine pu 12 43 (bt 15 16383) HT_.out ?_
        exact norm_ (by simp only [putAll, Act.put, List.setIfInBounds_toArray, List.set_cons_zero, List.set_cons_succ]) (hCont (v182, .slice Ao34 y184.length co34, gb187) _ ⟨hHeld, (by (with_reducible repeat (first | apply R_alloc | apply R_drewN | apply R_drew)); exact HO186.out), (by (with_reducible repeat (first | apply R_alloc | apply R_drewN | apply R_drew)); exact R_mono HO_179002.out (fun _ hk => hk.2)), (by (with_reducible repeat (first | apply R_alloc | apply R_drewN | apply R_drew)); exact R_mono HO_179003.out (fun _ hk => ⟨hk.2, ⟨hk.1.1, ⟨hk.1.2.1, hk.1.2.2⟩⟩⟩)), (by (with_reducible repeat (first | refine blk_drewN ?_ _ | refine blk_drew ?_ | refine blk_alloc ?_ _)); exact BK170.out), (by (with_reducible repeat (first | refine blk_drewN ?_ _ | refine blk_drew ?_ | refine blk_alloc ?_ _)); exact BK171.out), (by (with_reducible repeat (first | refine blk_drewN ?_ _ | refine blk_drew ?_ | refine blk_alloc ?_ _)); exact BK178.out), (by (with_reducible repeat (first | refine blk_drewN ?_ _ | refine blk_drew ?_ | refine blk_alloc ?_ _)); exact BK180.out), (by (with_reducible repeat (first | refine blk_drewN ?_ _ | refine blk_drew ?_ | refine blk_alloc ?_ _)); exact BK187.out), GW187.out, GE187.out, NB170_187.out, NB187_170.out, NB171_187.out, NB187_171.out, NB178_187.out, NB187_178.out, NB180_187.out, NB187_180.out, (by repeat with_reducible first | exact HB.out | apply below_alloc | apply pw_below_drewN | apply below_drew1 | refine below_set ?_ GE170.out | refine below_set ?_ GE171.out | refine below_set ?_ GE178.out | refine below_set ?_ GE180.out | refine below_set ?_ GE187.out)⟩)
      skip
      refine box_step ?hg (N := 6) ?hd (cs := #[.slice none 0 0, .slice none 0 0, .int .i64 0, .int .i64 0, .slice none 0 0]) (t := 44) ?hr ?_; (case hd => rfl); (case hg => rfl); (case hr => first | (go_simp; done) | (go_simp; rfl))
      intro gb187 hg w30 hbox hb
      have n0_ := Aside0.mk (Kd.R_below (by (with_reducible repeat (first | apply R_alloc | apply R_drewN | apply R_drew)); exact HO_179002.out) hb)
      have n1_ := Aside0.mk (Kd.R_below (Kd.R_elderB (by (with_reducible repeat (first | apply R_alloc | apply R_drewN | apply R_drew)); exact HO_179003.out) gb187 (Nat.le_of_eq hg.symm)) hb)
      have n2_ := Aside0.mk (blk_below (g := gb170) (o := .cells #[.int .i64 a0_0, .int .i64 a0_1, .slice A0_2 l0_2.length c0_2, .slice (some ad179) l0_3.length c0_3] 34 (0, 0)) (by (with_reducible repeat (first | refine blk_drewN ?_ _ | refine blk_drew ?_ | refine blk_alloc ?_ _)); exact BK170.out) hb)
      have n3_ := Aside0.mk (blk_below (g := gb171) (o := .cells #[.int .i64 0, .int .i64 0, .slice none 0 0, .slice none 0 0] 34 (0, 0)) (by (with_reducible repeat (first | refine blk_drewN ?_ _ | refine blk_drew ?_ | refine blk_alloc ?_ _)); exact BK171.out) hb)
      have n4_ := Aside0.mk (blk_below (g := gb178) (o := .cells #[.int .i64 a0_0, .int .i64 a0_1, .slice Ao12 y175.length co12, u179003] 34 (0, 0)) (by (with_reducible repeat (first | refine blk_drewN ?_ _ | refine blk_drew ?_ | refine blk_alloc ?_ _)); exact BK178.out) hb)
      have n5_ := Aside0.mk (blk_below (g := gb180) (o := .cells #[.slice A179_0 ((rd_T44 l0_3 x4_1).f0).length c179_0, .slice A179_1 ((rd_T44 l0_3 x4_1).f1).length c179_1, .int .i64 ((rd_T44 l0_3 x4_1).f2.f0), .int .i64 ((rd_T44 l0_3 x4_1).f2.f1), .slice A179_4 ((rd_T44 l0_3 x4_1).f2.f2).length c179_4] 44 (0, 0)) (by (with_reducible repeat (first | refine blk_drewN ?_ _ | refine blk_drew ?_ | refine blk_alloc ?_ _)); exact BK180.out) hb)
      have n6_ := Aside0.mk (below_step (by repeat with_reducible first | exact HB.out | apply below_alloc | apply pw_below_drewN | apply below_drew1 | refine below_set ?_ GE170.out | refine below_set ?_ GE171.out | refine below_set ?_ GE178.out | refine below_set ?_ GE180.out) hb)
      have n7_ := Aside0.mk (hbox)
      have n8_ := Aside0.mk ((by rw [hg]; exact (below_size (by repeat with_reducible first | exact HB.out | apply below_alloc | apply pw_below_drewN | apply below_drew1 | refine below_set ?_ GE170.out | refine below_set ?_ GE171.out | refine below_set ?_ GE178.out | refine below_set ?_ GE180.out)) : w.heap.size ≤ gb187))
      have n9_ := Aside0.mk ((by rw [hg]; exact (below_size (by repeat with_reducible first | exact HB.out | apply below_alloc | apply pw_below_drewN | apply below_drew1 | refine below_set ?_ GE170.out | refine below_set ?_ GE171.out | refine below_set ?_ GE178.out | refine below_set ?_ GE180.out)) : w.heap.size ≤ gb187))
      have n10_ := Aside0.mk ((by rw [hg]; exact Nat.ne_of_lt (blk_lt (g := gb170) (o := .cells #[.int .i64 a0_0, .int .i64 a0_1, .slice A0_2 l0_2.length c0_2, .slice (some ad179) l0_3.length c0_3] 34 (0, 0)) (by (with_reducible repeat (first | refine blk_drewN ?_ _ | refine blk_drew ?_ | refine blk_alloc ?_ _)); exact BK170.out)) : gb170 ≠ gb187))
      have n11_ := Aside0.mk ((by rw [hg]; exact Nat.ne_of_gt (blk_lt (g := gb170) (o := .cells #[.int .i64 a0_0, .int .i64 a0_1, .slice A0_2 l0_2.length c0_2, .slice (some ad179) l0_3.length c0_3] 34 (0, 0)) (by (with_reducible repeat (first | refine blk_drewN ?_ _ | refine blk_drew ?_ | refine blk_alloc ?_ _)); exact BK170.out)) : gb187 ≠ gb170))
      have n12_ := Aside0.mk ((by rw [hg]; exact Nat.ne_of_lt (blk_lt (g := gb171) (o := .cells #[.int .i64 0, .int .i64 0, .slice none 0 0, .slice none 0 0] 34 (0, 0)) (by (with_reducible repeat (first | refine blk_drewN ?_ _ | refine blk_drew ?_ | refine blk_alloc ?_ _)); exact BK171.out)) : gb171 ≠ gb187))
      have n13_ := Aside0.mk ((by rw [hg]; exact Nat.ne_of_gt (blk_lt (g := gb171) (o := .cells #[.int .i64 0, .int .i64 0, .slice none 0 0, .slice none 0 0] 34 (0, 0)) (by (with_reducible repeat (first | refine blk_drewN ?_ _ | refine blk_drew ?_ | refine blk_alloc ?_ _)); exact BK171.out)) : gb187 ≠ gb171))
      have n14_ := Aside0.mk ((by rw [hg]; exact Nat.ne_of_lt (blk_lt (g := gb178) (o := .cells #[.int .i64 a0_0, .int .i64 a0_1, .slice Ao12 y175.length co12, u179003] 34 (0, 0)) (by (with_reducible repeat (first | refine blk_drewN ?_ _ | refine blk_drew ?_ | refine blk_alloc ?_ _)); exact BK178.out)) : gb178 ≠ gb187))
      have n15_ := Aside0.mk ((by rw [hg]; exact Nat.ne_of_gt (blk_lt (g := gb178) (o := .cells #[.int .i64 a0_0, .int .i64 a0_1, .slice Ao12 y175.length co12, u179003] 34 (0, 0)) (by (with_reducible repeat (first | refine blk_drewN ?_ _ | refine blk_drew ?_ | refine blk_alloc ?_ _)); exact BK178.out)) : gb187 ≠ gb178))
      have n16_ := Aside0.mk ((by rw [hg]; exact Nat.ne_of_lt (blk_lt (g := gb180) (o := .cells #[.slice A179_0 ((rd_T44 l0_3 x4_1).f0).length c179_0, .slice A179_1 ((rd_T44 l0_3 x4_1).f1).length c179_1, .int .i64 ((rd_T44 l0_3 x4_1).f2.f0), .int .i64 ((rd_T44 l0_3 x4_1).f2.f1), .slice A179_4 ((rd_T44 l0_3 x4_1).f2.f2).length c179_4] 44 (0, 0)) (by (with_reducible repeat (first | refine blk_drewN ?_ _ | refine blk_drew ?_ | refine blk_alloc ?_ _)); exact BK180.out)) : gb180 ≠ gb187))
      have n17_ := Aside0.mk ((by rw [hg]; exact Nat.ne_of_gt (blk_lt (g := gb180) (o := .cells #[.slice A179_0 ((rd_T44 l0_3 x4_1).f0).length c179_0, .slice A179_1 ((rd_T44 l0_3 x4_1).f1).length c179_1, .int .i64 ((rd_T44 l0_3 x4_1).f2.f0), .int .i64 ((rd_T44 l0_3 x4_1).f2.f1), .slice A179_4 ((rd_T44 l0_3 x4_1).f2.f2).length c179_4] 44 (0, 0)) (by (with_reducible repeat (first | refine blk_drewN ?_ _ | refine blk_drew ?_ | refine blk_alloc ?_ _)); exact BK180.out)) : gb187 ≠ gb180))
      clear HO_179002
      clear HO_179003
      clear BK170
      clear BK171
      clear BK178
      clear BK180
      clear HB
      have HO_179002 := n0_
      have HO_179003 := n1_
      have BK170 := n2_
      have BK171 := n3_
      have BK178 := n4_
      have BK180 := n5_
      have HB := n6_
      have BK187 := n7_
      have GW187 := n8_
      have GE187 := n9_
      have NB170_187 := n10_
      have NB187_170 := n11_
      have NB171_187 := n12_
      have NB187_171 := n13_
      have NB178_187 := n14_
      have NB187_178 := n15_
      have NB180_187 := n16_
      have NB187_180 := n17_
      clear n0_ n1_ n2_ n3_ n4_ n5_ n6_ n7_ n8_ n9_ n10_ n11_ n12_ n13_ n14_ n15_ n16_ n17_
      clear hb hbox hg
      refine hK.out _ _ ⟨(blk_cell BK180.out 0).trans rfl, (blk_cell BK180.out 1).trans rfl, (blk_cell BK180.out 2).trans rfl, (blk_cell BK180.out 3).trans rfl, (blk_cell BK180.out 4).trans rfl⟩ (fun hHeld => ?_)
      clear hK K
      refine norm_ (a' := ?_) ?_ ?_
      rotate_left
      · show Act.put _ (some 6) _ = _
        simp only [Act.put, List.setIfInBounds_toArray, List.set_cons_zero, List.set_cons_succ, i64_w, i32_w]
        rfl
      refine one_ (i := 6) (N := some 37) (bt 15 9215) rfl rfl (one_of HT_.out (by kernel_rfl)) (by decide) (fun K hK => ?_)
      refine Kd.R_lit_step (Kd.int .i64) _ 3 ?hg (N := 37) ?hd (xs := ([] : List Int)) (inner := []) (ok := fun _ => True) (okp := fun _ => True) ?hr ?hp (fun _ hk => hk) trivial (Below.refl _ _) (Nat.le_refl _) (by simp) ?_; (case hd => rfl); (case hg => rfl); (case hr => first | (go_simp; done) | (go_simp; rfl)); (case hp => exact (Reps.none _ _))
      intro v182 w31 ho32 hb hg_ hnew_
      clear hg_ hnew_
      rw [← Ny181.out] at ho32
      have n0_ := Aside0.mk (R_elder' (by (with_reducible repeat (first | apply R_alloc | apply R_drewN | apply R_drew)); exact HO_179002.out) (R_base ho32) hb)
      have n1_ := Aside0.mk (R_elder' (by (with_reducible repeat (first | apply R_alloc | apply R_drewN | apply R_drew)); exact HO_179003.out) (R_base ho32) hb)
      have n2_ := Aside0.mk (Kd.R_lower (R_new' ho32 (R_lt (by (with_reducible repeat (first | apply R_alloc | apply R_drewN | apply R_drew)); exact HO_179002.out))) (below_size (by repeat with_reducible first | exact HB.out | apply below_alloc | apply pw_below_drewN | apply below_drew1 | refine below_set ?_ GE170.out | refine below_set ?_ GE171.out | refine below_set ?_ GE178.out | refine below_set ?_ GE180.out | refine below_set ?_ GE187.out)))
      have n3_ := Aside0.mk (blk_below (g := gb170) (o := .cells #[.int .i64 a0_0, .int .i64 a0_1, .slice A0_2 l0_2.length c0_2, .slice (some ad179) l0_3.length c0_3] 34 (0, 0)) (by (with_reducible repeat (first | refine blk_drewN ?_ _ | refine blk_drew ?_ | refine blk_alloc ?_ _)); exact BK170.out) hb)
      have n4_ := Aside0.mk (blk_below (g := gb171) (o := .cells #[.int .i64 0, .int .i64 0, .slice none 0 0, .slice none 0 0] 34 (0, 0)) (by (with_reducible repeat (first | refine blk_drewN ?_ _ | refine blk_drew ?_ | refine blk_alloc ?_ _)); exact BK171.out) hb)
      have n5_ := Aside0.mk (blk_below (g := gb178) (o := .cells #[.int .i64 a0_0, .int .i64 a0_1, .slice Ao12 y175.length co12, u179003] 34 (0, 0)) (by (with_reducible repeat (first | refine blk_drewN ?_ _ | refine blk_drew ?_ | refine blk_alloc ?_ _)); exact BK178.out) hb)
      have n6_ := Aside0.mk (blk_below (g := gb180) (o := .cells #[.slice A179_0 ((rd_T44 l0_3 x4_1).f0).length c179_0, .slice A179_1 ((rd_T44 l0_3 x4_1).f1).length c179_1, .int .i64 ((rd_T44 l0_3 x4_1).f2.f0), .int .i64 ((rd_T44 l0_3 x4_1).f2.f1), .slice A179_4 ((rd_T44 l0_3 x4_1).f2.f2).length c179_4] 44 (0, 0)) (by (with_reducible repeat (first | refine blk_drewN ?_ _ | refine blk_drew ?_ | refine blk_alloc ?_ _)); exact BK180.out) hb)
      have n7_ := Aside0.mk (blk_below (g := gb187) (o := .cells #[.slice none 0 0, .slice none 0 0, .int .i64 0, .int .i64 0, .slice none 0 0] 44 (0, 0)) (by (with_reducible repeat (first | refine blk_drewN ?_ _ | refine blk_drew ?_ | refine blk_alloc ?_ _)); exact BK187.out) hb)
      have n8_ := Aside0.mk (below_step (by repeat with_reducible first | exact HB.out | apply below_alloc | apply pw_below_drewN | apply below_drew1 | refine below_set ?_ GE170.out | refine below_set ?_ GE171.out | refine below_set ?_ GE178.out | refine below_set ?_ GE180.out | refine below_set ?_ GE187.out) hb)
      clear HO_179002
      clear HO_179003
      clear BK170
      clear BK171
      clear BK178
      clear BK180
      clear BK187
      clear HB
      have HO_179002 := n0_
      have HO_179003 := n1_
      have HO183 := n2_
      have BK170 := n3_
      have BK171 := n4_
      have BK178 := n5_
      have BK180 := n6_
      have BK187 := n7_
      have HB := n8_
      clear n0_ n1_ n2_ n3_ n4_ n5_ n6_ n7_ n8_
      clear hb ho32
      refine hK.out _ _ ⟨(blk_cell BK180.out 0).trans rfl, (blk_cell BK180.out 1).trans rfl, (blk_cell BK180.out 2).trans rfl, (blk_cell BK180.out 3).trans rfl, (blk_cell BK180.out 4).trans rfl⟩ (fun hHeld => ?_)
      clear hK K
      refine norm_ (a' := ?_) ?_ ?_
      rotate_left
      · show Act.put _ (some 37) _ = _
        simp only [Act.put, List.setIfInBounds_toArray, List.set_cons_zero, List.set_cons_succ, i64_w, i32_w]
        rfl
      refine one_ (i := 10) (N := some 41) (bt 15 10239) rfl rfl (one_of HT_.out (by kernel_rfl)) (by decide) (fun K hK => ?_)
      refine Kd.R_append_rows_step (Kd.int .i64) (w0 := w) w.heap.size (by rfl) (.tmp 37) (.tmp 40) 31 3 (.int .i64 0) 8 rfl Tryd.underlying31 info3 rfl (by decide) (by omega) v182 y181 ((rd_T44 l0_3 x4_1).f2.f2) _ _ _ (fun k_ => some k_ ≠ (.slice Ao12 y175.length co12 : Value).ownBlock) (fun _ => False) rfl rfl ?aO ?aR (fun _ _ h => h) (fun _ h => h.elim) ?aF ?aB ?aS ?aL ?_
      (case aR => repeat (first | exact (C_below HR179_4.out HB.out) | (with_reducible refine C_alloc ?_ _) | (with_reducible refine C_drewN ?_ _) | (with_reducible refine C_drew ?_)))
      (case aB => exact (by repeat with_reducible first | exact HB.out | apply below_alloc | apply pw_below_drewN | apply below_drew1 | refine below_set ?_ GE170.out | refine below_set ?_ GE171.out | refine below_set ?_ GE178.out | refine below_set ?_ GE180.out | refine below_set ?_ GE187.out))
      (case aF => exact (fun k_ hk => Kd.fresh' (R_lt (by (with_reducible repeat (first | apply R_alloc | apply R_drewN | apply R_drew)); exact HO_179002.out)) k_ hk))
      (case aO => exact (by (with_reducible repeat (first | apply R_alloc | apply R_drewN | apply R_drew)); exact R_mono HO183.out (fun _ hk => hk.2)))
      (case aS => exact (below_size (by repeat with_reducible first | exact HB.out | apply below_alloc | apply pw_below_drewN | apply below_drew1 | refine below_set ?_ GE170.out | refine below_set ?_ GE171.out | refine below_set ?_ GE178.out | refine below_set ?_ GE180.out | refine below_set ?_ GE187.out)))
      (case aL => have := LMc19.out; omega)
      intro v185 w33 ho hb hg hat
      rw [← Ny184.out] at ho
      have n0_ := Aside0.mk (Kd.R_after (ok := (fun _ => True)) (by (with_reducible repeat (first | apply R_alloc | apply R_drewN | apply R_drew)); exact HO_179002.out) hg hat)
      have n1_ := Aside0.mk (Kd.R_after (ok := (fun k_ => some k_ ≠ (.slice Ao12 y175.length co12 : Value).ownBlock ∧ k_ ≠ gb180 ∧ k_ ≠ gb187)) (by (with_reducible repeat (first | apply R_alloc | apply R_drewN | apply R_drew)); exact R_mono HO_179003.out (fun _ hk => ⟨⟨hk.1.1.1, ⟨hk.1.1.2, hk.1.2⟩⟩, hk.2⟩)) hg hat)
      have n2_ := Aside0.mk (blk_grown (g := gb170) (o := .cells #[.int .i64 a0_0, .int .i64 a0_1, .slice A0_2 l0_2.length c0_2, .slice (some ad179) l0_3.length c0_3] 34 (0, 0)) (by (with_reducible repeat (first | refine blk_drewN ?_ _ | refine blk_drew ?_ | refine blk_alloc ?_ _)); exact BK170.out) hg (Kd.R_ne HO183.out BK170.out (by decide)))
      have n3_ := Aside0.mk (blk_grown (g := gb171) (o := .cells #[.int .i64 0, .int .i64 0, .slice none 0 0, .slice none 0 0] 34 (0, 0)) (by (with_reducible repeat (first | refine blk_drewN ?_ _ | refine blk_drew ?_ | refine blk_alloc ?_ _)); exact BK171.out) hg (Kd.R_ne HO183.out BK171.out (by decide)))
      have n4_ := Aside0.mk (blk_grown (g := gb178) (o := .cells #[.int .i64 a0_0, .int .i64 a0_1, .slice Ao12 y175.length co12, u179003] 34 (0, 0)) (by (with_reducible repeat (first | refine blk_drewN ?_ _ | refine blk_drew ?_ | refine blk_alloc ?_ _)); exact BK178.out) hg (Kd.R_ne HO183.out BK178.out (by decide)))
      have n5_ := Aside0.mk (blk_grown (g := gb180) (o := .cells #[.slice A179_0 ((rd_T44 l0_3 x4_1).f0).length c179_0, .slice A179_1 ((rd_T44 l0_3 x4_1).f1).length c179_1, .int .i64 ((rd_T44 l0_3 x4_1).f2.f0), .int .i64 ((rd_T44 l0_3 x4_1).f2.f1), .slice A179_4 ((rd_T44 l0_3 x4_1).f2.f2).length c179_4] 44 (0, 0)) (by (with_reducible repeat (first | refine blk_drewN ?_ _ | refine blk_drew ?_ | refine blk_alloc ?_ _)); exact BK180.out) hg (Kd.R_ne HO183.out BK180.out (by decide)))
      have n6_ := Aside0.mk (blk_grown (g := gb187) (o := .cells #[.slice none 0 0, .slice none 0 0, .int .i64 0, .int .i64 0, .slice none 0 0] 44 (0, 0)) (by (with_reducible repeat (first | refine blk_drewN ?_ _ | refine blk_drew ?_ | refine blk_alloc ?_ _)); exact BK187.out) hg (Kd.R_ne HO183.out BK187.out (by decide)))
      have n7_ := Aside0.mk (hb)
      have n8_ := Aside0.mk (ho)
      clear HO_179002
      clear HO_179003
      clear BK170
      clear BK171
      clear BK178
      clear BK180
      clear BK187
      clear HB
      clear HO183
      have HO_179002 := n0_
      have HO_179003 := n1_
      have BK170 := n2_
      have BK171 := n3_
      have BK178 := n4_
      have BK180 := n5_
      have BK187 := n6_
      have HB := n7_
      have HO186 := n8_
      clear n0_ n1_ n2_ n3_ n4_ n5_ n6_ n7_ n8_
      clear ho hb hg hat
      obtain ⟨Ao34, co34, eo34⟩ := Kd.R_slice HO186.out
      (first | subst eo34 | (injection eo34 with f1_ f2_ f3_; have f4_ := f1_.symm; have f5_ := f3_.symm; clear f1_ f2_ f3_; subst f4_; subst f5_))
      refine hK.out _ _ ⟨(blk_cell BK180.out 0).trans rfl, (blk_cell BK180.out 1).trans rfl, (blk_cell BK180.out 2).trans rfl, (blk_cell BK180.out 3).trans rfl, (blk_cell BK180.out 4).trans rfl⟩ (fun hHeld => ?_)
      clear hK K
      refine norm_ (a' := ?_) ?_ ?_
      rotate_left
      · show Act.put _ (some 41) _ = _
        simp only [Act.put, List.setIfInBounds_toArray, List.set_cons_zero, List.set_cons_succ, i64_w, i32_w]
        rfl
      refine pu 11 42 (bt 15 12287) HT_.out ?_
      refine pu 12 43 (bt 15 16383) HT_.out ?_
      exact norm_ (by simp only [putAll, Act.put, List.setIfInBounds_toArray, List.set_cons_zero, List.set_cons_succ]) (hCont (v182, .slice Ao34 y184.length co34, gb187) _ ⟨hHeld, (by (with_reducible repeat (first | apply R_alloc | apply R_drewN | apply R_drew)); exact HO186.out), (by (with_reducible repeat (first | apply R_alloc | apply R_drewN | apply R_drew)); exact R_mono HO_179002.out (fun _ hk => hk.2)), (by (with_reducible repeat (first | apply R_alloc | apply R_drewN | apply R_drew)); exact R_mono HO_179003.out (fun _ hk => ⟨hk.2, ⟨hk.1.1, ⟨hk.1.2.1, hk.1.2.2⟩⟩⟩)), (by (with_reducible repeat (first | refine blk_drewN ?_ _ | refine blk_drew ?_ | refine blk_alloc ?_ _)); exact BK170.out), (by (with_reducible repeat (first | refine blk_drewN ?_ _ | refine blk_drew ?_ | refine blk_alloc ?_ _)); exact BK171.out), (by (with_reducible repeat (first | refine blk_drewN ?_ _ | refine blk_drew ?_ | refine blk_alloc ?_ _)); exact BK178.out), (by (with_reducible repeat (first | refine blk_drewN ?_ _ | refine blk_drew ?_ | refine blk_alloc ?_ _)); exact BK180.out), (by (with_reducible repeat (first | refine blk_drewN ?_ _ | refine blk_drew ?_ | refine blk_alloc ?_ _)); exact BK187.out), GW187.out, GE187.out, NB170_187.out, NB187_170.out, NB171_187.out, NB187_171.out, NB178_187.out, NB187_178.out, NB180_187.out, NB187_180.out, (by repeat with_reducible first | exact HB.out | apply below_alloc | apply pw_below_drewN | apply below_drew1 | refine below_set ?_ GE170.out | refine below_set ?_ GE171.out | refine below_set ?_ GE178.out | refine below_set ?_ GE180.out | refine below_set ?_ GE187.out)⟩)
    rintro ⟨v182, v185, gb187⟩ w35 ⟨hS_, h0_, h1_, h2_, h3_, h4_, h5_, h6_, h7_, h8_, h9_, h10_, h11_, h12_, h13_, h14_, h15_, h16_, h17_, h18_⟩
    have n0_ : Aside0 (Kd.R (Kd.int .i64) 3 w35 w.heap.size (fun k_ => some k_ ≠ (.slice Ao12 y175.length co12 : Value).ownBlock) v185 y184) := ⟨h0_⟩
    have n1_ : Aside0 (Kd.R (Kd.int .i64) 3 w35 w.heap.size (fun k_ => some k_ ≠ (v185 : Value).ownBlock) (.slice Ao12 y175.length co12) y175) := ⟨h1_⟩
    have n2_ : Aside0 (Kd.R k44 44 w35 w.heap.size (fun k_ => some k_ ≠ (v185 : Value).ownBlock ∧ some k_ ≠ (.slice Ao12 y175.length co12 : Value).ownBlock ∧ k_ ≠ gb180 ∧ k_ ≠ gb187) u179003 x179003_1) := ⟨h2_⟩
    have n3_ : Aside0 (w35.heap[gb170]? = some (.cells #[.int .i64 a0_0, .int .i64 a0_1, .slice A0_2 l0_2.length c0_2, .slice (some ad179) l0_3.length c0_3] 34 (0, 0))) := ⟨h3_⟩
    have n4_ : Aside0 (w35.heap[gb171]? = some (.cells #[.int .i64 0, .int .i64 0, .slice none 0 0, .slice none 0 0] 34 (0, 0))) := ⟨h4_⟩
    have n5_ : Aside0 (w35.heap[gb178]? = some (.cells #[.int .i64 a0_0, .int .i64 a0_1, .slice Ao12 y175.length co12, u179003] 34 (0, 0))) := ⟨h5_⟩
    have n6_ : Aside0 (w35.heap[gb180]? = some (.cells #[.slice A179_0 ((rd_T44 l0_3 x4_1).f0).length c179_0, .slice A179_1 ((rd_T44 l0_3 x4_1).f1).length c179_1, .int .i64 ((rd_T44 l0_3 x4_1).f2.f0), .int .i64 ((rd_T44 l0_3 x4_1).f2.f1), .slice A179_4 ((rd_T44 l0_3 x4_1).f2.f2).length c179_4] 44 (0, 0))) := ⟨h6_⟩
    have n7_ : Aside0 (w35.heap[gb187]? = some (.cells #[.slice none 0 0, .slice none 0 0, .int .i64 0, .int .i64 0, .slice none 0 0] 44 (0, 0))) := ⟨h7_⟩
    have n8_ : Aside0 (w.heap.size ≤ gb187) := ⟨h8_⟩
    have n9_ : Aside0 (w.heap.size ≤ gb187) := ⟨h9_⟩
    have n10_ : Aside0 (gb170 ≠ gb187) := ⟨h10_⟩
    have n11_ : Aside0 (gb187 ≠ gb170) := ⟨h11_⟩
    have n12_ : Aside0 (gb171 ≠ gb187) := ⟨h12_⟩
    have n13_ : Aside0 (gb187 ≠ gb171) := ⟨h13_⟩
    have n14_ : Aside0 (gb178 ≠ gb187) := ⟨h14_⟩
    have n15_ : Aside0 (gb187 ≠ gb178) := ⟨h15_⟩
    have n16_ : Aside0 (gb180 ≠ gb187) := ⟨h16_⟩
    have n17_ : Aside0 (gb187 ≠ gb180) := ⟨h17_⟩
    have n18_ : Aside0 (Below w.heap.size w w35) := ⟨h18_⟩
    clear HO_179002
    clear HO_179003
    clear BK170
    clear BK171
    clear BK178
    clear BK180
    clear HB
    clear h0_ h1_ h2_ h3_ h4_ h5_ h6_ h7_ h8_ h9_ h10_ h11_ h12_ h13_ h14_ h15_ h16_ h17_ h18_
    have HO186 := n0_
    have HO_179002 := n1_
    have HO_179003 := n2_
    have BK170 := n3_
    have BK171 := n4_
    have BK178 := n5_
    have BK180 := n6_
    have BK187 := n7_
    have GW187 := n8_
    have GE187 := n9_
    have NB170_187 := n10_
    have NB187_170 := n11_
    have NB171_187 := n12_
    have NB187_171 := n13_
    have NB178_187 := n14_
    have NB187_178 := n15_
    have NB180_187 := n16_
    have NB187_180 := n17_
    have HB := n18_
    clear n0_ n1_ n2_ n3_ n4_ n5_ n6_ n7_ n8_ n9_ n10_ n11_ n12_ n13_ n14_ n15_ n16_ n17_ n18_
    have hHeld : w35.cell? ⟨gb180, 0, none⟩ = some (.slice A179_0 ((rd_T44 l0_3 x4_1).f0).length c179_0) ∧ w35.cell? ⟨gb180, 1, none⟩ = some (.slice A179_1 ((rd_T44 l0_3 x4_1).f1).length c179_1) ∧ w35.cell? ⟨gb180, 2, none⟩ = some (.int .i64 ((rd_T44 l0_3 x4_1).f2.f0)) ∧ w35.cell? ⟨gb180, 3, none⟩ = some (.int .i64 ((rd_T44 l0_3 x4_1).f2.f1)) ∧ w35.cell? ⟨gb180, 4, none⟩ = some (.slice A179_4 ((rd_T44 l0_3 x4_1).f2.f2).length c179_4) := hS_
    obtain ⟨Ao36, co36, eo36⟩ := Kd.R_slice HO186.out
    (first | subst eo36 | (injection eo36 with f1_ f2_ f3_; have f4_ := f1_.symm; have f5_ := f3_.symm; clear f1_ f2_ f3_; subst f4_; subst f5_))
    refine norm_ (a' := ?_) ?_ ?_
    rotate_left
    · simp only [putAll, Act.put, List.setIfInBounds_toArray, List.set_cons_zero, List.set_cons_succ]
      rfl
    refine one_ (i := 14) (N := none) (bt 15 32767) rfl rfl (one_of HT_.out (by kernel_rfl)) (by decide) (fun K hK => ?_)
    have hs37 : w35.cell? ⟨gb187, 0, none⟩ = some (.slice none 0 0) := (blk_cell BK187.out 0).trans rfl
    have hfs37 := blk_frozen BK187.out 0
    have hns37_0 := NB170_187.out
    have hns37_1 := NB171_187.out
    have hns37_2 := NB178_187.out
    have hns37_3 := NB180_187.out
    have hms37_0 := NB187_170.out
    have hms37_1 := NB187_171.out
    have hms37_2 := NB187_178.out
    have hms37_3 := NB187_180.out
    have hs38 : w35.cell? ⟨gb187, 1, none⟩ = some (.slice none 0 0) := (blk_cell BK187.out 1).trans rfl
    have hfs38 := blk_frozen BK187.out 1
    have hns38_0 := NB170_187.out
    have hns38_1 := NB171_187.out
    have hns38_2 := NB178_187.out
    have hns38_3 := NB180_187.out
    have hms38_0 := NB187_170.out
    have hms38_1 := NB187_171.out
    have hms38_2 := NB187_178.out
    have hms38_3 := NB187_180.out
    have hs39 : w35.cell? ⟨gb187, 2, none⟩ = some (.int .i64 0) := (blk_cell BK187.out 2).trans rfl
    have hfs39 := blk_frozen BK187.out 2
    have hns39_0 := NB170_187.out
    have hns39_1 := NB171_187.out
    have hns39_2 := NB178_187.out
    have hns39_3 := NB180_187.out
    have hms39_0 := NB187_170.out
    have hms39_1 := NB187_171.out
    have hms39_2 := NB187_178.out
    have hms39_3 := NB187_180.out
    have hs40 : w35.cell? ⟨gb187, 3, none⟩ = some (.int .i64 0) := (blk_cell BK187.out 3).trans rfl
    have hfs40 := blk_frozen BK187.out 3
    have hns40_0 := NB170_187.out
    have hns40_1 := NB171_187.out
    have hns40_2 := NB178_187.out
    have hns40_3 := NB180_187.out
    have hms40_0 := NB187_170.out
    have hms40_1 := NB187_171.out
    have hms40_2 := NB187_178.out
    have hms40_3 := NB187_180.out
    have hs41 : w35.cell? ⟨gb187, 4, none⟩ = some (.slice none 0 0) := (blk_cell BK187.out 4).trans rfl
    have hfs41 := blk_frozen BK187.out 4
    have hns41_0 := NB170_187.out
    have hns41_1 := NB171_187.out
    have hns41_2 := NB178_187.out
    have hns41_3 := NB180_187.out
    have hms41_0 := NB187_170.out
    have hms41_1 := NB187_171.out
    have hms41_2 := NB187_178.out
    have hms41_3 := NB187_180.out
    refine skip_ (w1 := ?_) (by rfl) rfl ?_ ?_
    rotate_left
    · go_simp
      rfl
    refine hK.out _ _ ⟨((cell_far (p := ⟨gb187, _, none⟩) NB180_187.out _).trans (((cell_far (p := ⟨gb187, _, none⟩) NB180_187.out _).trans (((cell_far (p := ⟨gb187, _, none⟩) NB180_187.out _).trans (((cell_far (p := ⟨gb187, _, none⟩) NB180_187.out _).trans (((cell_far (p := ⟨gb187, _, none⟩) NB180_187.out _).trans (hHeld.1)))))))))), ((cell_far (p := ⟨gb187, _, none⟩) NB180_187.out _).trans (((cell_far (p := ⟨gb187, _, none⟩) NB180_187.out _).trans (((cell_far (p := ⟨gb187, _, none⟩) NB180_187.out _).trans (((cell_far (p := ⟨gb187, _, none⟩) NB180_187.out _).trans (((cell_far (p := ⟨gb187, _, none⟩) NB180_187.out _).trans (hHeld.2.1)))))))))), ((cell_far (p := ⟨gb187, _, none⟩) NB180_187.out _).trans (((cell_far (p := ⟨gb187, _, none⟩) NB180_187.out _).trans (((cell_far (p := ⟨gb187, _, none⟩) NB180_187.out _).trans (((cell_far (p := ⟨gb187, _, none⟩) NB180_187.out _).trans (((cell_far (p := ⟨gb187, _, none⟩) NB180_187.out _).trans (hHeld.2.2.1)))))))))), ((cell_far (p := ⟨gb187, _, none⟩) NB180_187.out _).trans (((cell_far (p := ⟨gb187, _, none⟩) NB180_187.out _).trans (((cell_far (p := ⟨gb187, _, none⟩) NB180_187.out _).trans (((cell_far (p := ⟨gb187, _, none⟩) NB180_187.out _).trans (((cell_far (p := ⟨gb187, _, none⟩) NB180_187.out _).trans (hHeld.2.2.2.1)))))))))), ((cell_far (p := ⟨gb187, _, none⟩) NB180_187.out _).trans (((cell_far (p := ⟨gb187, _, none⟩) NB180_187.out _).trans (((cell_far (p := ⟨gb187, _, none⟩) NB180_187.out _).trans (((cell_far (p := ⟨gb187, _, none⟩) NB180_187.out _).trans (((cell_far (p := ⟨gb187, _, none⟩) NB180_187.out _).trans (hHeld.2.2.2.2))))))))))⟩ (fun hHeld => ?_)
    clear hK K
    refine done_ (done_of HT_.out (by kernel_rfl)) ?_
    try go_wp2
    go_loopg [7] k1 (fun kq v7 w' => ∃ (x7_2 : Int) (x188000_2 : List (S48)) (u188000 : Value), v7 = .int .i64 x7_2 ∧ Aside0 (fettleref02_CopyFunc.l1 kq x4_1 x7_2 a0_0 a0_1 l0_2 l0_3 a0_0 a0_1 y175 x179003_1 ((rd_T44 l0_3 x4_1).f0) ((rd_T44 l0_3 x4_1).f1) ((rd_T44 l0_3 x4_1).f2.f0) ((rd_T44 l0_3 x4_1).f2.f1) ((rd_T44 l0_3 x4_1).f2.f2) x188000_2 ((rd_T44 l0_3 x4_1).f2.f0) ((rd_T44 l0_3 x4_1).f2.f1) y184 = some (r1, r2, r3, r4)) ∧ Aside0 (kq ≤ k1) ∧ Aside0 (Kd.R (Kd.int .i64) 3 w' w.heap.size (fun k_ => some k_ ≠ ((.slice Ao36 y184.length co36) : Value).ownBlock) (.slice Ao12 y175.length co12) y175) ∧ Aside0 (Kd.R k44 44 w' w.heap.size (fun k_ => some k_ ≠ ((.slice Ao12 y175.length co12) : Value).ownBlock ∧ some k_ ≠ (u188000 : Value).ownBlock ∧ some k_ ≠ ((.slice Ao36 y184.length co36) : Value).ownBlock ∧ k_ ≠ gb180 ∧ k_ ≠ gb187) u179003 x179003_1) ∧ Aside0 (Kd.S k48 48 w' w.heap.size (fun k_ => some k_ ≠ ((.slice Ao12 y175.length co12) : Value).ownBlock ∧ some k_ ≠ ((.slice Ao36 y184.length co36) : Value).ownBlock) u188000 x188000_2) ∧ Aside0 (Kd.R (Kd.int .i64) 3 w' w.heap.size (fun k_ => some k_ ≠ ((.slice Ao12 y175.length co12) : Value).ownBlock) (.slice Ao36 y184.length co36) y184) ∧ Aside0 (w'.heap[gb170]? = some (.cells #[.int .i64 a0_0, .int .i64 a0_1, (.slice A0_2 l0_2.length c0_2), (.slice (some ad179) l0_3.length c0_3)] 34 (0, 0))) ∧ Aside0 (w'.heap[gb171]? = some (.cells #[.int .i64 0, .int .i64 0, (.slice none 0 0), (.slice none 0 0)] 34 (0, 0))) ∧ Aside0 (w'.heap[gb178]? = some (.cells #[.int .i64 a0_0, .int .i64 a0_1, (.slice Ao12 y175.length co12), u179003] 34 (0, 0))) ∧ Aside0 (w'.heap[gb180]? = some (.cells #[(.slice A179_0 ((rd_T44 l0_3 x4_1).f0).length c179_0), (.slice A179_1 ((rd_T44 l0_3 x4_1).f1).length c179_1), .int .i64 ((rd_T44 l0_3 x4_1).f2.f0), .int .i64 ((rd_T44 l0_3 x4_1).f2.f1), (.slice A179_4 ((rd_T44 l0_3 x4_1).f2.f2).length c179_4)] 44 (0, 0))) ∧ Aside0 (w'.heap[gb187]? = some (.cells #[u188000, (.slice none 0 0), .int .i64 ((rd_T44 l0_3 x4_1).f2.f0), .int .i64 ((rd_T44 l0_3 x4_1).f2.f1), (.slice Ao36 y184.length co36)] 44 (0, 0))) ∧ Aside0 (Below w.heap.size w w'))
    case atStart => exact ⟨(0), (([] : List (S48))), (.slice none 0 0), (by first | rfl | (simp; done) | (simp [*]; done)), H', ⟨Nat.le_refl _⟩, ⟨by (with_reducible repeat (first | apply R_alloc | apply R_drewN | apply R_drew)); exact R_mono (Kd.R_far (p := ⟨gb187, 4, none⟩) (Kd.R_far (p := ⟨gb187, 3, none⟩) (Kd.R_far (p := ⟨gb187, 2, none⟩) (Kd.R_far (p := ⟨gb187, 1, none⟩) (Kd.R_far (p := ⟨gb187, 0, none⟩) (Kd.R_types HO_179002.out BK187.out (by decide)) (fun _ hk => hk.2) (.slice none 0 0)) (fun _ hk => hk.2) (.slice none 0 0)) (fun _ hk => hk.2) (.int .i64 ((rd_T44 l0_3 x4_1).f2.f0))) (fun _ hk => hk.2) (.int .i64 ((rd_T44 l0_3 x4_1).f2.f1))) (fun _ hk => hk.2) (.slice Ao36 y184.length co36)) (fun _ hk => hk.1)⟩, ⟨by (with_reducible repeat (first | apply R_alloc | apply R_drewN | apply R_drew)); exact R_mono (Kd.R_far (p := ⟨gb187, 4, none⟩) (Kd.R_far (p := ⟨gb187, 3, none⟩) (Kd.R_far (p := ⟨gb187, 2, none⟩) (Kd.R_far (p := ⟨gb187, 1, none⟩) (Kd.R_far (p := ⟨gb187, 0, none⟩) (R_mono HO_179003.out (fun k_ hk => (⟨hk, hk.2.2.2⟩ : _ ∧ k_ ≠ gb187))) (fun _ hk => hk.2) (.slice none 0 0)) (fun _ hk => hk.2) (.slice none 0 0)) (fun _ hk => hk.2) (.int .i64 ((rd_T44 l0_3 x4_1).f2.f0))) (fun _ hk => hk.2) (.int .i64 ((rd_T44 l0_3 x4_1).f2.f1))) (fun _ hk => hk.2) (.slice Ao36 y184.length co36)) (fun _ hk => ⟨hk.1.2.1, ⟨(by simp [Value.ownBlock]), ⟨hk.1.1, ⟨hk.1.2.2.1, hk.1.2.2.2⟩⟩⟩⟩)⟩, ⟨by first | exact Kd.S_nil _ _ _ _ _ | exact Kd.N_nil _ _ _ _ _ | exact Kd.V_nil _ _ _ _ _ | exact Kd.Q_nil _ _ _ _ _ | exact Kd.R_nil _ _ _ _ _⟩, ⟨by (with_reducible repeat (first | apply R_alloc | apply R_drewN | apply R_drew)); exact R_mono (Kd.R_far (p := ⟨gb187, 4, none⟩) (Kd.R_far (p := ⟨gb187, 3, none⟩) (Kd.R_far (p := ⟨gb187, 2, none⟩) (Kd.R_far (p := ⟨gb187, 1, none⟩) (Kd.R_far (p := ⟨gb187, 0, none⟩) (Kd.R_types HO186.out BK187.out (by decide)) (fun _ hk => hk.2) (.slice none 0 0)) (fun _ hk => hk.2) (.slice none 0 0)) (fun _ hk => hk.2) (.int .i64 ((rd_T44 l0_3 x4_1).f2.f0))) (fun _ hk => hk.2) (.int .i64 ((rd_T44 l0_3 x4_1).f2.f1))) (fun _ hk => hk.2) (.slice Ao36 y184.length co36)) (fun _ hk => hk.1)⟩, ⟨by (with_reducible repeat (first | refine blk_drewN ?_ _ | refine blk_drew ?_ | refine blk_alloc ?_ _)); refine blk_far ?_ NB170_187.out _; (with_reducible repeat (first | refine blk_drewN ?_ _ | refine blk_drew ?_ | refine blk_alloc ?_ _)); refine blk_far ?_ NB170_187.out _; (with_reducible repeat (first | refine blk_drewN ?_ _ | refine blk_drew ?_ | refine blk_alloc ?_ _)); refine blk_far ?_ NB170_187.out _; (with_reducible repeat (first | refine blk_drewN ?_ _ | refine blk_drew ?_ | refine blk_alloc ?_ _)); refine blk_far ?_ NB170_187.out _; (with_reducible repeat (first | refine blk_drewN ?_ _ | refine blk_drew ?_ | refine blk_alloc ?_ _)); refine blk_far ?_ NB170_187.out _; (with_reducible repeat (first | refine blk_drewN ?_ _ | refine blk_drew ?_ | refine blk_alloc ?_ _)); exact BK170.out⟩, ⟨by (with_reducible repeat (first | refine blk_drewN ?_ _ | refine blk_drew ?_ | refine blk_alloc ?_ _)); refine blk_far ?_ NB171_187.out _; (with_reducible repeat (first | refine blk_drewN ?_ _ | refine blk_drew ?_ | refine blk_alloc ?_ _)); refine blk_far ?_ NB171_187.out _; (with_reducible repeat (first | refine blk_drewN ?_ _ | refine blk_drew ?_ | refine blk_alloc ?_ _)); refine blk_far ?_ NB171_187.out _; (with_reducible repeat (first | refine blk_drewN ?_ _ | refine blk_drew ?_ | refine blk_alloc ?_ _)); refine blk_far ?_ NB171_187.out _; (with_reducible repeat (first | refine blk_drewN ?_ _ | refine blk_drew ?_ | refine blk_alloc ?_ _)); refine blk_far ?_ NB171_187.out _; (with_reducible repeat (first | refine blk_drewN ?_ _ | refine blk_drew ?_ | refine blk_alloc ?_ _)); exact BK171.out⟩, ⟨by (with_reducible repeat (first | refine blk_drewN ?_ _ | refine blk_drew ?_ | refine blk_alloc ?_ _)); refine blk_far ?_ NB178_187.out _; (with_reducible repeat (first | refine blk_drewN ?_ _ | refine blk_drew ?_ | refine blk_alloc ?_ _)); refine blk_far ?_ NB178_187.out _; (with_reducible repeat (first | refine blk_drewN ?_ _ | refine blk_drew ?_ | refine blk_alloc ?_ _)); refine blk_far ?_ NB178_187.out _; (with_reducible repeat (first | refine blk_drewN ?_ _ | refine blk_drew ?_ | refine blk_alloc ?_ _)); refine blk_far ?_ NB178_187.out _; (with_reducible repeat (first | refine blk_drewN ?_ _ | refine blk_drew ?_ | refine blk_alloc ?_ _)); refine blk_far ?_ NB178_187.out _; (with_reducible repeat (first | refine blk_drewN ?_ _ | refine blk_drew ?_ | refine blk_alloc ?_ _)); exact BK178.out⟩, ⟨by (with_reducible repeat (first | refine blk_drewN ?_ _ | refine blk_drew ?_ | refine blk_alloc ?_ _)); refine blk_far ?_ NB180_187.out _; (with_reducible repeat (first | refine blk_drewN ?_ _ | refine blk_drew ?_ | refine blk_alloc ?_ _)); refine blk_far ?_ NB180_187.out _; (with_reducible repeat (first | refine blk_drewN ?_ _ | refine blk_drew ?_ | refine blk_alloc ?_ _)); refine blk_far ?_ NB180_187.out _; (with_reducible repeat (first | refine blk_drewN ?_ _ | refine blk_drew ?_ | refine blk_alloc ?_ _)); refine blk_far ?_ NB180_187.out _; (with_reducible repeat (first | refine blk_drewN ?_ _ | refine blk_drew ?_ | refine blk_alloc ?_ _)); refine blk_far ?_ NB180_187.out _; (with_reducible repeat (first | refine blk_drewN ?_ _ | refine blk_drew ?_ | refine blk_alloc ?_ _)); exact BK180.out⟩, ⟨by (with_reducible repeat (first | refine blk_drewN ?_ _ | refine blk_drew ?_ | refine blk_alloc ?_ _)); refine blk_put (cs := #[.slice none 0 0, .slice none 0 0, .int .i64 ((rd_T44 l0_3 x4_1).f2.f0), .int .i64 ((rd_T44 l0_3 x4_1).f2.f1), .slice none 0 0]) ?_ 4 _ rfl; (with_reducible repeat (first | refine blk_drewN ?_ _ | refine blk_drew ?_ | refine blk_alloc ?_ _)); refine blk_put (cs := #[.slice none 0 0, .slice none 0 0, .int .i64 ((rd_T44 l0_3 x4_1).f2.f0), .int .i64 0, .slice none 0 0]) ?_ 3 _ rfl; (with_reducible repeat (first | refine blk_drewN ?_ _ | refine blk_drew ?_ | refine blk_alloc ?_ _)); refine blk_put (cs := #[.slice none 0 0, .slice none 0 0, .int .i64 0, .int .i64 0, .slice none 0 0]) ?_ 2 _ rfl; (with_reducible repeat (first | refine blk_drewN ?_ _ | refine blk_drew ?_ | refine blk_alloc ?_ _)); refine blk_put (cs := #[.slice none 0 0, .slice none 0 0, .int .i64 0, .int .i64 0, .slice none 0 0]) ?_ 1 _ rfl; (with_reducible repeat (first | refine blk_drewN ?_ _ | refine blk_drew ?_ | refine blk_alloc ?_ _)); refine blk_put (cs := #[.slice none 0 0, .slice none 0 0, .int .i64 0, .int .i64 0, .slice none 0 0]) ?_ 0 _ rfl; (with_reducible repeat (first | refine blk_drewN ?_ _ | refine blk_drew ?_ | refine blk_alloc ?_ _)); exact BK187.out⟩, ⟨by repeat (first | (with_reducible first | exact HB.out | apply below_alloc | apply pw_below_drewN | apply below_drew1 | refine below_set ?_ GE170.out | refine below_set ?_ GE171.out | refine below_set ?_ GE178.out | refine below_set ?_ GE180.out | refine below_set ?_ GE187.out) | exact HB.out)⟩⟩
    clear H'
    try clear c1
    try clear p2
    try clear c17
    try clear c19
    obtain ⟨x7_2, x188000_2, u188000, rfl, HA, HK2, HO_179002, HO_179003, HO_188000, HO_188004, BK170, BK171, BK178, BK180, BK187, HB⟩ := hrel
    rcases gk with _ | k2
    · exact absurd HA.out (by simp [fettleref02_CopyFunc.l1])
    have H := HA.out
    clear HA
    simp only [fettleref02_CopyFunc.l1] at H
    by_cases c42 : x7_2 < (((rd_T44 l0_3 x4_1).f0).length : Int)
    · rw [if_pos c42] at H
      have c42b0 : decide (x7_2 < (((rd_T44 l0_3 x4_1).f0).length : Int)) = true := decide_eq_true c42
      clear c42
      by_cases c43 : 0 ≤ x7_2
      rotate_left
      · rw [if_neg c43] at H
        exact absurd H (by simp)
      rw [if_pos c43] at H
      have c43b0 : decide (0 ≤ x7_2) = true := decide_eq_true c43
      clear c43
      obtain ⟨y189, hy189⟩ : ∃ y_ : List Int, y_ = (([] : List Int)) := ⟨_, rfl⟩
      replace H : (if y189.length + ((rd_T48 ((rd_T44 l0_3 x4_1).f0) x7_2).f1).length < 17592186044416 then (if x188000_2.length < 4398046511104 then (fettleref02_CopyFunc.l1 k2 x4_1 (wrap64 (x7_2 + 1)) a0_0 a0_1 l0_2 l0_3 a0_0 a0_1 y175 x179003_1 ((rd_T44 l0_3 x4_1).f0) ((rd_T44 l0_3 x4_1).f1) ((rd_T44 l0_3 x4_1).f2.f0) ((rd_T44 l0_3 x4_1).f2.f1) ((rd_T44 l0_3 x4_1).f2.f2) (x188000_2 ++ [(⟨(rd_T48 ((rd_T44 l0_3 x4_1).f0) x7_2).f0, (y189 ++ ((rd_T48 ((rd_T44 l0_3 x4_1).f0) x7_2).f1))⟩ : S48)]) ((rd_T44 l0_3 x4_1).f2.f0) ((rd_T44 l0_3 x4_1).f2.f1) y184) else (none)) else (none)) = some (r1, r2, r3, r4) := by first | (rw [hy189]; with_reducible exact H) | (have H2_ := (Option.bind_some _ _).symm.trans H; rw [hy189]; with_reducible exact H2_) | exact H
      have Ny189 := Aside0.mk hy189
      clear hy189
      by_cases c44 : y189.length + ((rd_T48 ((rd_T44 l0_3 x4_1).f0) x7_2).f1).length < 17592186044416
      rotate_left
      · rw [if_neg c44] at H
        exact absurd H (by simp)
      rw [if_pos c44] at H
      have LMc44 := Aside0.mk c44
      clear c44
      obtain ⟨y193, hy193⟩ : ∃ y_ : List Int, y_ = (y189 ++ ((rd_T48 ((rd_T44 l0_3 x4_1).f0) x7_2).f1)) := ⟨_, rfl⟩
      replace H : (if x188000_2.length < 4398046511104 then (fettleref02_CopyFunc.l1 k2 x4_1 (wrap64 (x7_2 + 1)) a0_0 a0_1 l0_2 l0_3 a0_0 a0_1 y175 x179003_1 ((rd_T44 l0_3 x4_1).f0) ((rd_T44 l0_3 x4_1).f1) ((rd_T44 l0_3 x4_1).f2.f0) ((rd_T44 l0_3 x4_1).f2.f1) ((rd_T44 l0_3 x4_1).f2.f2) (x188000_2 ++ [(⟨(rd_T48 ((rd_T44 l0_3 x4_1).f0) x7_2).f0, y193⟩ : S48)]) ((rd_T44 l0_3 x4_1).f2.f0) ((rd_T44 l0_3 x4_1).f2.f1) y184) else (none)) = some (r1, r2, r3, r4) := by first | (rw [hy193]; with_reducible exact H) | (have H2_ := (Option.bind_some _ _).symm.trans H; rw [hy193]; with_reducible exact H2_) | exact H
      have Ny193 := Aside0.mk hy193
      clear hy193
      by_cases c45 : x188000_2.length < 4398046511104
      rotate_left
      · rw [if_neg c45] at H
        exact absurd H (by simp)
      rw [if_pos c45] at H
      have LMc45 := Aside0.mk c45
      clear c45
      obtain ⟨y196, hy196⟩ : ∃ y_ : List (S48), y_ = (x188000_2 ++ [(⟨(rd_T48 ((rd_T44 l0_3 x4_1).f0) x7_2).f0, y193⟩ : S48)]) := ⟨_, rfl⟩
      replace H : (fettleref02_CopyFunc.l1 k2 x4_1 (wrap64 (x7_2 + 1)) a0_0 a0_1 l0_2 l0_3 a0_0 a0_1 y175 x179003_1 ((rd_T44 l0_3 x4_1).f0) ((rd_T44 l0_3 x4_1).f1) ((rd_T44 l0_3 x4_1).f2.f0) ((rd_T44 l0_3 x4_1).f2.f1) ((rd_T44 l0_3 x4_1).f2.f2) y196 ((rd_T44 l0_3 x4_1).f2.f0) ((rd_T44 l0_3 x4_1).f2.f1) y184) = some (r1, r2, r3, r4) := by first | (rw [hy196]; with_reducible exact H) | (have H2_ := (Option.bind_some _ _).symm.trans H; rw [hy196]; with_reducible exact H2_) | exact H
      have Ny196 := Aside0.mk hy196
      clear hy196
      have H' := Aside0.mk H
      clear H
      have hnb46 := NB180_170.out
      have hnc46 := NB170_180.out
      have hnb47 := NB180_171.out
      have hnc47 := NB171_180.out
      have hnb48 := NB180_178.out
      have hnc48 := NB178_180.out
      have hnb49 := NB180_187.out
      have hnc49 := NB187_180.out
      have hcz50_0 : wr.cell? ⟨gb180, 0, none⟩ = some (.slice A179_0 ((rd_T44 l0_3 x4_1).f0).length c179_0) := (blk_cell BK180.out 0).trans rfl
      have hcz50_1 : wr.cell? ⟨gb180, 1, none⟩ = some (.slice A179_1 ((rd_T44 l0_3 x4_1).f1).length c179_1) := (blk_cell BK180.out 1).trans rfl
      have hcz50_2 : wr.cell? ⟨gb180, 2, none⟩ = some (.int .i64 ((rd_T44 l0_3 x4_1).f2.f0)) := (blk_cell BK180.out 2).trans rfl
      have hcz50_3 : wr.cell? ⟨gb180, 3, none⟩ = some (.int .i64 ((rd_T44 l0_3 x4_1).f2.f1)) := (blk_cell BK180.out 3).trans rfl
      have hcz50_4 : wr.cell? ⟨gb180, 4, none⟩ = some (.slice A179_4 ((rd_T44 l0_3 x4_1).f2.f2).length c179_4) := (blk_cell BK180.out 4).trans rfl
      have hfz50_0 := blk_frozen BK180.out 0
      have hfz50_1 := blk_frozen BK180.out 1
      have hfz50_2 := blk_frozen BK180.out 2
      have hfz50_3 := blk_frozen BK180.out 3
      have hfz50_4 := blk_frozen BK180.out 4
      try go_wp2
      have n0_ := Aside0.mk (R_drew HO_179002.out)
      have n1_ := Aside0.mk (R_drew HO_179003.out)
      have n2_ := Aside0.mk (S_drew HO_188000.out)
      have n3_ := Aside0.mk (R_drew HO_188004.out)
      have n4_ := Aside0.mk (blk_drew BK170.out)
      have n5_ := Aside0.mk (blk_drew BK171.out)
      have n6_ := Aside0.mk (blk_drew BK178.out)
      have n7_ := Aside0.mk (blk_drew BK180.out)
      have n8_ := Aside0.mk (blk_drew BK187.out)
      have n9_ := Aside0.mk (below_drew1 HB.out)
      clear HO_179002
      clear HO_179003
      clear HO_188000
      clear HO_188004
      clear BK170
      clear BK171
      clear BK178
      clear BK180
      clear BK187
      clear HB
      have HO_179002 := n0_
      have HO_179003 := n1_
      have HO_188000 := n2_
      have HO_188004 := n3_
      have BK170 := n4_
      have BK171 := n5_
      have BK178 := n6_
      have BK180 := n7_
      have BK187 := n8_
      have HB := n9_
      clear n0_ n1_ n2_ n3_ n4_ n5_ n6_ n7_ n8_ n9_
      have p188 : 0 ≤ (x7_2 : Int) := of_decide_eq_true (by with_reducible assumption)
      have q188 : x7_2 < (((rd_T44 l0_3 x4_1).f0).length : Int) := of_decide_eq_true (by with_reducible assumption)
      obtain ⟨ad188, A188_1, c188_1, e188, hx188_0, hx188_1, hl188_1, hi188_1⟩ := at_T48 HR179_0.out x7_2 p188 q188
      have hw188_1 := hx188_1
      have hw188_0 := hx188_0
      cases e188
      replace hx188_0 := (HB.out.cell (World.block_lt_of_cell? w _ hx188_0)).trans hx188_0
      replace hx188_1 := (HB.out.cell (World.block_lt_of_cell? w _ hx188_1)).trans hx188_1
      have HR188_1 := Aside0.mk hi188_1
      have HC188_1 := Aside0.mk hl188_1
      clear hi188_1 hl188_1
      replace p188 := eq_true p188
      replace q188 := eq_true q188
      have p192 : 0 ≤ (x7_2 : Int) := of_decide_eq_true (by with_reducible assumption)
      have q192 : x7_2 < (((rd_T44 l0_3 x4_1).f0).length : Int) := of_decide_eq_true (by with_reducible assumption)
      obtain ⟨ad192, A192_1, c192_1, e192, hx192_0, hx192_1, hl192_1, hi192_1⟩ := at_T48 HR179_0.out x7_2 p192 q192
      have hw192_1 := hx192_1
      have hw192_0 := hx192_0
      obtain rfl : ad188 = ad192 := (by injection e192)
      replace hx192_0 := (HB.out.cell (World.block_lt_of_cell? w _ hx192_0)).trans hx192_0
      replace hx192_1 := (HB.out.cell (World.block_lt_of_cell? w _ hx192_1)).trans hx192_1
      have HR192_1 := Aside0.mk hi192_1
      have HC192_1 := Aside0.mk hl192_1
      clear hi192_1 hl192_1
      replace p192 := eq_true p192
      replace q192 := eq_true q192
      have ea_ := Option.some.inj (hx188_1.symm.trans hx192_1)
      injection ea_ with ea_ en_ ec_
      subst ea_
      subst ec_
      clear en_
      refine start_ (n := 21) (S := fun w' => w'.cell? ⟨gb187, 0, none⟩ = some (u188000) ∧ w'.cell? ⟨gb187, 1, none⟩ = some (.slice none 0 0) ∧ w'.cell? ⟨gb187, 2, none⟩ = some (.int .i64 ((rd_T44 l0_3 x4_1).f2.f0)) ∧ w'.cell? ⟨gb187, 3, none⟩ = some (.int .i64 ((rd_T44 l0_3 x4_1).f2.f1)) ∧ w'.cell? ⟨gb187, 4, none⟩ = some (.slice Ao36 y184.length co36) ∧ w'.cell? ⟨gb180, 0, none⟩ = some (.slice (some ad188) ((rd_T44 l0_3 x4_1).f0).length c179_0) ∧ w'.cell? ⟨gb180, 1, none⟩ = some (.slice A179_1 ((rd_T44 l0_3 x4_1).f1).length c179_1) ∧ w'.cell? ⟨gb180, 2, none⟩ = some (.int .i64 ((rd_T44 l0_3 x4_1).f2.f0)) ∧ w'.cell? ⟨gb180, 3, none⟩ = some (.int .i64 ((rd_T44 l0_3 x4_1).f2.f1)) ∧ w'.cell? ⟨gb180, 4, none⟩ = some (.slice A179_4 ((rd_T44 l0_3 x4_1).f2.f2).length c179_4) ∧ w'.cell? (ad188.add ((x7_2).toNat * 2)) = some (.int .i64 ((rd_T48 ((rd_T44 l0_3 x4_1).f0) x7_2).f0)) ∧ w'.cell? ⟨(ad188.add ((x7_2).toNat * 2)).block, (ad188.add ((x7_2).toNat * 2)).off + 1, none⟩ = some (.slice A188_1 ((rd_T48 ((rd_T44 l0_3 x4_1).f0) x7_2).f1).length c188_1) ∧ w'.cell? (ad188.add ((x7_2).toNat * 2)) = some (.int .i64 ((rd_T48 ((rd_T44 l0_3 x4_1).f0) x7_2).f0)) ∧ w'.cell? ⟨(ad188.add ((x7_2).toNat * 2)).block, (ad188.add ((x7_2).toNat * 2)).off + 1, none⟩ = some (.slice A188_1 ((rd_T48 ((rd_T44 l0_3 x4_1).f0) x7_2).f1).length c188_1)) (ds := [20]) #[false, false, false, false, false, false, false, false, false, false, false, false, false, false, false, false, false, false, false, false, false] (by kernel_rfl) rfl rfl ⟨(blk_cell BK187.out 0).trans rfl, (blk_cell BK187.out 1).trans rfl, (blk_cell BK187.out 2).trans rfl, (blk_cell BK187.out 3).trans rfl, (blk_cell BK187.out 4).trans rfl, (blk_cell BK180.out 0).trans rfl, (blk_cell BK180.out 1).trans rfl, (blk_cell BK180.out 2).trans rfl, (blk_cell BK180.out 3).trans rfl, (blk_cell BK180.out 4).trans rfl, ((HB.out.cell (World.block_lt_of_cell? w _ hw188_0)).trans hw188_0), ((HB.out.cell (World.block_lt_of_cell? w _ hw188_1)).trans hw188_1), ((HB.out.cell (World.block_lt_of_cell? w _ hw192_0)).trans hw192_0), ((HB.out.cell (World.block_lt_of_cell? w _ hw192_1)).trans hw192_1)⟩ (fun hHeld => ?_); refine with_tabW fettleref02_CopyFunc.tab10 fettleref02_CopyFunc.bits10 (fun HT_ HW_ => ?_)
      generalize wr.drew = w51 at HO_179002 HO_179003 HO_188000 HO_188004 BK170 BK171 BK178 BK180 BK187 HB HR188_1 HR192_1 hx188_0 hx188_1 hx192_0 hx192_1 hHeld ⊢
      refine pu 0 51 (bt 21 1) HT_.out ?_
      refine pu 2 53 (bt 21 5) HT_.out ?_
      refine pu 4 55 (bt 21 21) HT_.out ?_
      refine pu 9 60 (bt 21 533) HT_.out ?_
      refine pu 11 62 (bt 21 2581) HT_.out ?_
      refine tk 1 52 (bt 21 2583) HT_.out HW_.out hHeld rfl rfl (by rintro w' ⟨s0, s1, s2, s3, s4, s5, s6, s7, s8, s9, s10, s11, s12, s13⟩; go_simp; with_reducible rfl) ?_
      refine tk 3 54 (bt 21 2591) HT_.out HW_.out hHeld rfl rfl (by rintro w' ⟨s0, s1, s2, s3, s4, s5, s6, s7, s8, s9, s10, s11, s12, s13⟩; go_simp; with_reducible rfl) ?_
      refine pu 5 56 (bt 21 2623) HT_.out ?_
      refine pu 6 57 (bt 21 2687) HT_.out ?_
      refine tk 7 58 (bt 21 2815) HT_.out HW_.out hHeld rfl rfl (by rintro w' ⟨s0, s1, s2, s3, s4, s5, s6, s7, s8, s9, s10, s11, s12, s13⟩; go_simp; with_reducible rfl) ?_
      refine tk 10 61 (bt 21 3839) HT_.out HW_.out hHeld rfl rfl (by rintro w' ⟨s0, s1, s2, s3, s4, s5, s6, s7, s8, s9, s10, s11, s12, s13⟩; go_simp; with_reducible rfl) ?_
      refine pu 12 63 (bt 21 7935) HT_.out ?_
      refine pu 13 64 (bt 21 16127) HT_.out ?_
      refine tk 14 65 (bt 21 32511) HT_.out HW_.out hHeld rfl rfl (by rintro w' ⟨s0, s1, s2, s3, s4, s5, s6, s7, s8, s9, s10, s11, s12, s13⟩; go_simp; with_reducible rfl) ?_
      refine one_ (i := 8) (N := some 59) (bt 21 32767) rfl rfl (one_of HT_.out (by kernel_rfl)) (by decide) (fun K hK => ?_)
      refine Kd.R_lit_step (Kd.int .i64) _ 3 ?hg (N := 59) ?hd (xs := ([] : List Int)) (inner := []) (ok := fun _ => True) (okp := fun _ => True) ?hr ?hp (fun _ hk => hk) trivial (Below.refl _ _) (Nat.le_refl _) (by simp) ?_; (case hd => rfl); (case hg => rfl); (case hr => first | (go_simp; done) | (go_simp; rfl)); (case hp => exact (Reps.none _ _))
      intro v190 w52 ho53 hb hg_ hnew_
      clear hg_ hnew_
      rw [← Ny189.out] at ho53
      have n0_ := Aside0.mk (R_elder' (by (with_reducible repeat (first | apply R_alloc | apply R_drewN | apply R_drew)); exact HO_179002.out) (R_base ho53) hb)
      have n1_ := Aside0.mk (R_elder' (by (with_reducible repeat (first | apply R_alloc | apply R_drewN | apply R_drew)); exact HO_179003.out) (R_base ho53) hb)
      have n2_ := Aside0.mk (Kd.S_elder' (by (with_reducible repeat (first | apply S_alloc | apply S_drewN | apply S_drew)); exact HO_188000.out) (R_base ho53) hb)
      have n3_ := Aside0.mk (R_elder' (by (with_reducible repeat (first | apply R_alloc | apply R_drewN | apply R_drew)); exact HO_188004.out) (R_base ho53) hb)
      have n4_ := Aside0.mk (Kd.R_lower (R_new' (R_new' ho53 (R_lt (by (with_reducible repeat (first | apply R_alloc | apply R_drewN | apply R_drew)); exact HO_179002.out))) (R_lt (by (with_reducible repeat (first | apply R_alloc | apply R_drewN | apply R_drew)); exact HO_188004.out))) (below_size (by repeat with_reducible first | exact HB.out | apply below_alloc | apply pw_below_drewN | apply below_drew1 | refine below_set ?_ GE170.out | refine below_set ?_ GE171.out | refine below_set ?_ GE178.out | refine below_set ?_ GE180.out | refine below_set ?_ GE187.out)))
      have n5_ := Aside0.mk (blk_below (g := gb170) (o := .cells #[.int .i64 a0_0, .int .i64 a0_1, .slice A0_2 l0_2.length c0_2, .slice (some ad179) l0_3.length c0_3] 34 (0, 0)) (by (with_reducible repeat (first | refine blk_drewN ?_ _ | refine blk_drew ?_ | refine blk_alloc ?_ _)); exact BK170.out) hb)
      have n6_ := Aside0.mk (blk_below (g := gb171) (o := .cells #[.int .i64 0, .int .i64 0, .slice none 0 0, .slice none 0 0] 34 (0, 0)) (by (with_reducible repeat (first | refine blk_drewN ?_ _ | refine blk_drew ?_ | refine blk_alloc ?_ _)); exact BK171.out) hb)
      have n7_ := Aside0.mk (blk_below (g := gb178) (o := .cells #[.int .i64 a0_0, .int .i64 a0_1, .slice Ao12 y175.length co12, u179003] 34 (0, 0)) (by (with_reducible repeat (first | refine blk_drewN ?_ _ | refine blk_drew ?_ | refine blk_alloc ?_ _)); exact BK178.out) hb)
      have n8_ := Aside0.mk (blk_below (g := gb180) (o := .cells #[.slice (some ad188) ((rd_T44 l0_3 x4_1).f0).length c179_0, .slice A179_1 ((rd_T44 l0_3 x4_1).f1).length c179_1, .int .i64 ((rd_T44 l0_3 x4_1).f2.f0), .int .i64 ((rd_T44 l0_3 x4_1).f2.f1), .slice A179_4 ((rd_T44 l0_3 x4_1).f2.f2).length c179_4] 44 (0, 0)) (by (with_reducible repeat (first | refine blk_drewN ?_ _ | refine blk_drew ?_ | refine blk_alloc ?_ _)); exact BK180.out) hb)
      have n9_ := Aside0.mk (blk_below (g := gb187) (o := .cells #[u188000, .slice none 0 0, .int .i64 ((rd_T44 l0_3 x4_1).f2.f0), .int .i64 ((rd_T44 l0_3 x4_1).f2.f1), .slice Ao36 y184.length co36] 44 (0, 0)) (by (with_reducible repeat (first | refine blk_drewN ?_ _ | refine blk_drew ?_ | refine blk_alloc ?_ _)); exact BK187.out) hb)
      have n10_ := Aside0.mk (below_step (by repeat with_reducible first | exact HB.out | apply below_alloc | apply pw_below_drewN | apply below_drew1 | refine below_set ?_ GE170.out | refine below_set ?_ GE171.out | refine below_set ?_ GE178.out | refine below_set ?_ GE180.out | refine below_set ?_ GE187.out) hb)
      clear HO_179002
      clear HO_179003
      clear HO_188000
      clear HO_188004
      clear BK170
      clear BK171
      clear BK178
      clear BK180
      clear BK187
      clear HB
      have HO_179002 := n0_
      have HO_179003 := n1_
      have HO_188000 := n2_
      have HO_188004 := n3_
      have HO191 := n4_
      have BK170 := n5_
      have BK171 := n6_
      have BK178 := n7_
      have BK180 := n8_
      have BK187 := n9_
      have HB := n10_
      clear n0_ n1_ n2_ n3_ n4_ n5_ n6_ n7_ n8_ n9_ n10_
      clear hb ho53
      refine hK.out _ _ ⟨(blk_cell BK187.out 0).trans rfl, (blk_cell BK187.out 1).trans rfl, (blk_cell BK187.out 2).trans rfl, (blk_cell BK187.out 3).trans rfl, (blk_cell BK187.out 4).trans rfl, (blk_cell BK180.out 0).trans rfl, (blk_cell BK180.out 1).trans rfl, (blk_cell BK180.out 2).trans rfl, (blk_cell BK180.out 3).trans rfl, (blk_cell BK180.out 4).trans rfl, ((HB.out.cell (World.block_lt_of_cell? w _ hw188_0)).trans hw188_0), ((HB.out.cell (World.block_lt_of_cell? w _ hw188_1)).trans hw188_1), ((HB.out.cell (World.block_lt_of_cell? w _ hw192_0)).trans hw192_0), ((HB.out.cell (World.block_lt_of_cell? w _ hw192_1)).trans hw192_1)⟩ (fun hHeld => ?_)
      clear hK K
      refine norm_ (a' := ?_) ?_ ?_
      rotate_left
      · show Act.put _ (some 59) _ = _
        simp only [Act.put, List.setIfInBounds_toArray, List.set_cons_zero, List.set_cons_succ, i64_w, i32_w]
        rfl
      refine one_ (i := 15) (N := some 66) (bt 21 65535) rfl rfl (one_of HT_.out (by kernel_rfl)) (by decide) (fun K hK => ?_)
      refine Kd.R_append_rows_step (Kd.int .i64) (w0 := w) w.heap.size (by rfl) (.tmp 59) (.tmp 65) 31 3 (.int .i64 0) 8 rfl Tryd.underlying31 info3 rfl (by decide) (by omega) v190 y189 ((rd_T48 ((rd_T44 l0_3 x4_1).f0) x7_2).f1) _ _ _ (fun k_ => some k_ ≠ (.slice Ao12 y175.length co12 : Value).ownBlock ∧ some k_ ≠ (.slice Ao36 y184.length co36 : Value).ownBlock) (fun _ => False) rfl rfl ?aO ?aR (fun _ _ h => h) (fun _ h => h.elim) ?aF ?aB ?aS ?aL ?_
      (case aR => repeat (first | exact (C_below HR192_1.out HB.out) | (with_reducible refine C_alloc ?_ _) | (with_reducible refine C_drewN ?_ _) | (with_reducible refine C_drew ?_)))
      (case aB => exact (by repeat with_reducible first | exact HB.out | apply below_alloc | apply pw_below_drewN | apply below_drew1 | refine below_set ?_ GE170.out | refine below_set ?_ GE171.out | refine below_set ?_ GE178.out | refine below_set ?_ GE180.out | refine below_set ?_ GE187.out))
      (case aF => exact (fun k_ hk => ⟨Kd.fresh' (R_lt (by (with_reducible repeat (first | apply R_alloc | apply R_drewN | apply R_drew)); exact HO_179002.out)) k_ hk, Kd.fresh' (R_lt (by (with_reducible repeat (first | apply R_alloc | apply R_drewN | apply R_drew)); exact HO_188004.out)) k_ hk⟩))
      (case aO => exact (by (with_reducible repeat (first | apply R_alloc | apply R_drewN | apply R_drew)); exact R_mono HO191.out (fun _ hk => ⟨hk.1.2, hk.2⟩)))
      (case aS => exact (below_size (by repeat with_reducible first | exact HB.out | apply below_alloc | apply pw_below_drewN | apply below_drew1 | refine below_set ?_ GE170.out | refine below_set ?_ GE171.out | refine below_set ?_ GE178.out | refine below_set ?_ GE180.out | refine below_set ?_ GE187.out)))
      (case aL => have := LMc44.out; omega)
      intro v194 w54 ho hb hg hat
      rw [← Ny193.out] at ho
      have n0_ := Aside0.mk (Kd.R_after (ok := (fun k_ => some k_ ≠ (.slice Ao36 y184.length co36 : Value).ownBlock)) (by (with_reducible repeat (first | apply R_alloc | apply R_drewN | apply R_drew)); exact HO_179002.out) hg hat)
      have n1_ := Aside0.mk (Kd.R_after (ok := (fun k_ => some k_ ≠ (.slice Ao12 y175.length co12 : Value).ownBlock ∧ some k_ ≠ (u188000 : Value).ownBlock ∧ some k_ ≠ (.slice Ao36 y184.length co36 : Value).ownBlock ∧ k_ ≠ gb180 ∧ k_ ≠ gb187)) (by (with_reducible repeat (first | apply R_alloc | apply R_drewN | apply R_drew)); exact HO_179003.out) hg hat)
      have n2_ := Aside0.mk (Kd.S_after (ok := (fun k_ => some k_ ≠ (.slice Ao12 y175.length co12 : Value).ownBlock ∧ some k_ ≠ (.slice Ao36 y184.length co36 : Value).ownBlock)) (by (with_reducible repeat (first | apply S_alloc | apply S_drewN | apply S_drew)); exact HO_188000.out) hg hat)
      have n3_ := Aside0.mk (Kd.R_after (ok := (fun k_ => some k_ ≠ (.slice Ao12 y175.length co12 : Value).ownBlock)) (by (with_reducible repeat (first | apply R_alloc | apply R_drewN | apply R_drew)); exact HO_188004.out) hg hat)
      have n4_ := Aside0.mk (blk_grown (g := gb170) (o := .cells #[.int .i64 a0_0, .int .i64 a0_1, .slice A0_2 l0_2.length c0_2, .slice (some ad179) l0_3.length c0_3] 34 (0, 0)) (by (with_reducible repeat (first | refine blk_drewN ?_ _ | refine blk_drew ?_ | refine blk_alloc ?_ _)); exact BK170.out) hg (Kd.R_ne HO191.out BK170.out (by decide)))
      have n5_ := Aside0.mk (blk_grown (g := gb171) (o := .cells #[.int .i64 0, .int .i64 0, .slice none 0 0, .slice none 0 0] 34 (0, 0)) (by (with_reducible repeat (first | refine blk_drewN ?_ _ | refine blk_drew ?_ | refine blk_alloc ?_ _)); exact BK171.out) hg (Kd.R_ne HO191.out BK171.out (by decide)))
      have n6_ := Aside0.mk (blk_grown (g := gb178) (o := .cells #[.int .i64 a0_0, .int .i64 a0_1, .slice Ao12 y175.length co12, u179003] 34 (0, 0)) (by (with_reducible repeat (first | refine blk_drewN ?_ _ | refine blk_drew ?_ | refine blk_alloc ?_ _)); exact BK178.out) hg (Kd.R_ne HO191.out BK178.out (by decide)))
      have n7_ := Aside0.mk (blk_grown (g := gb180) (o := .cells #[.slice (some ad188) ((rd_T44 l0_3 x4_1).f0).length c179_0, .slice A179_1 ((rd_T44 l0_3 x4_1).f1).length c179_1, .int .i64 ((rd_T44 l0_3 x4_1).f2.f0), .int .i64 ((rd_T44 l0_3 x4_1).f2.f1), .slice A179_4 ((rd_T44 l0_3 x4_1).f2.f2).length c179_4] 44 (0, 0)) (by (with_reducible repeat (first | refine blk_drewN ?_ _ | refine blk_drew ?_ | refine blk_alloc ?_ _)); exact BK180.out) hg (Kd.R_ne HO191.out BK180.out (by decide)))
      have n8_ := Aside0.mk (blk_grown (g := gb187) (o := .cells #[u188000, .slice none 0 0, .int .i64 ((rd_T44 l0_3 x4_1).f2.f0), .int .i64 ((rd_T44 l0_3 x4_1).f2.f1), .slice Ao36 y184.length co36] 44 (0, 0)) (by (with_reducible repeat (first | refine blk_drewN ?_ _ | refine blk_drew ?_ | refine blk_alloc ?_ _)); exact BK187.out) hg (Kd.R_ne HO191.out BK187.out (by decide)))
      have n9_ := Aside0.mk (hb)
      have n10_ := Aside0.mk (ho)
      clear HO_179002
      clear HO_179003
      clear HO_188000
      clear HO_188004
      clear BK170
      clear BK171
      clear BK178
      clear BK180
      clear BK187
      clear HB
      clear HO191
      have HO_179002 := n0_
      have HO_179003 := n1_
      have HO_188000 := n2_
      have HO_188004 := n3_
      have BK170 := n4_
      have BK171 := n5_
      have BK178 := n6_
      have BK180 := n7_
      have BK187 := n8_
      have HB := n9_
      have HO195 := n10_
      clear n0_ n1_ n2_ n3_ n4_ n5_ n6_ n7_ n8_ n9_ n10_
      clear ho hb hg hat
      obtain ⟨Ao55, co55, eo55⟩ := Kd.R_slice HO195.out
      (first | subst eo55 | (injection eo55 with f1_ f2_ f3_; have f4_ := f1_.symm; have f5_ := f3_.symm; clear f1_ f2_ f3_; subst f4_; subst f5_))
      refine hK.out _ _ ⟨(blk_cell BK187.out 0).trans rfl, (blk_cell BK187.out 1).trans rfl, (blk_cell BK187.out 2).trans rfl, (blk_cell BK187.out 3).trans rfl, (blk_cell BK187.out 4).trans rfl, (blk_cell BK180.out 0).trans rfl, (blk_cell BK180.out 1).trans rfl, (blk_cell BK180.out 2).trans rfl, (blk_cell BK180.out 3).trans rfl, (blk_cell BK180.out 4).trans rfl, ((HB.out.cell (World.block_lt_of_cell? w _ hw188_0)).trans hw188_0), ((HB.out.cell (World.block_lt_of_cell? w _ hw188_1)).trans hw188_1), ((HB.out.cell (World.block_lt_of_cell? w _ hw192_0)).trans hw192_0), ((HB.out.cell (World.block_lt_of_cell? w _ hw192_1)).trans hw192_1)⟩ (fun hHeld => ?_)
      clear hK K
      refine norm_ (a' := ?_) ?_ ?_
      rotate_left
      · show Act.put _ (some 66) _ = _
        simp only [Act.put, List.setIfInBounds_toArray, List.set_cons_zero, List.set_cons_succ, i64_w, i32_w]
        rfl
      refine pu 16 67 (bt 21 131071) HT_.out ?_
      refine one_ (i := 17) (N := some 68) (bt 21 262143) rfl rfl (one_of HT_.out (by kernel_rfl)) (by decide) (fun K hK => ?_)
      refine value_ (w1 := ?_) (v := ?_) (by rfl) rfl ?_ ?_
      rotate_left 2
      · go_simp
        constructor
        · rfl
        rfl
      refine hK.out _ _ ⟨(blk_cell (blk_alloc BK187.out _) 0).trans rfl, (blk_cell (blk_alloc BK187.out _) 1).trans rfl, (blk_cell (blk_alloc BK187.out _) 2).trans rfl, (blk_cell (blk_alloc BK187.out _) 3).trans rfl, (blk_cell (blk_alloc BK187.out _) 4).trans rfl, (blk_cell (blk_alloc BK180.out _) 0).trans rfl, (blk_cell (blk_alloc BK180.out _) 1).trans rfl, (blk_cell (blk_alloc BK180.out _) 2).trans rfl, (blk_cell (blk_alloc BK180.out _) 3).trans rfl, (blk_cell (blk_alloc BK180.out _) 4).trans rfl, (World.cell?_alloc_lt _ _ _ (World.block_lt_of_cell? _ _ (((HB.out.cell (World.block_lt_of_cell? w _ hw188_0)).trans hw188_0)))).trans (((HB.out.cell (World.block_lt_of_cell? w _ hw188_0)).trans hw188_0)), (World.cell?_alloc_lt _ _ _ (World.block_lt_of_cell? _ _ (((HB.out.cell (World.block_lt_of_cell? w _ hw188_1)).trans hw188_1)))).trans (((HB.out.cell (World.block_lt_of_cell? w _ hw188_1)).trans hw188_1)), (World.cell?_alloc_lt _ _ _ (World.block_lt_of_cell? _ _ (((HB.out.cell (World.block_lt_of_cell? w _ hw192_0)).trans hw192_0)))).trans (((HB.out.cell (World.block_lt_of_cell? w _ hw192_0)).trans hw192_0)), (World.cell?_alloc_lt _ _ _ (World.block_lt_of_cell? _ _ (((HB.out.cell (World.block_lt_of_cell? w _ hw192_1)).trans hw192_1)))).trans (((HB.out.cell (World.block_lt_of_cell? w _ hw192_1)).trans hw192_1))⟩ (fun hHeld => ?_)
      clear hK K
      refine norm_ (a' := ?_) ?_ ?_
      rotate_left
      · show Act.put _ (some 68) _ = _
        simp only [Act.put, List.setIfInBounds_toArray, List.set_cons_zero, List.set_cons_succ, i64_w, i32_w]
        rfl
      refine one_ (i := 18) (N := some 69) (bt 21 524287) rfl rfl (one_of HT_.out (by kernel_rfl)) (by decide) (fun K hK => ?_)
      refine Kd.S_append_step k48 (w0 := w) w.heap.size (by rfl) (.tmp 52) (.tmp 68) 39 48 (.agg #[(.int .i64 0), (.slice none 0 0)]) 32 rfl Tryd.underlying39 info48 rfl (by decide) (by omega) u188000 x188000_2 (⟨(rd_T48 ((rd_T44 l0_3 x4_1).f0) x7_2).f0, y193⟩ : S48) [.int .i64 ((rd_T48 ((rd_T44 l0_3 x4_1).f0) x7_2).f0), .slice Ao55 y193.length co55] (fun k_ => some k_ ≠ (.slice Ao12 y175.length co12 : Value).ownBlock ∧ some k_ ≠ (.slice Ao36 y184.length co36 : Value).ownBlock) (fun k_ => some k_ = (.slice Ao55 y193.length co55 : Value).ownBlock) rfl rfl ?aP (fun k_ hk_ => ((R_mono (ok' := fun k_ => ((fun k_ => some k_ ≠ (.slice Ao12 y175.length co12 : Value).ownBlock ∧ some k_ ≠ (.slice Ao36 y184.length co36 : Value).ownBlock)) k_ ∧ some k_ ≠ (u188000 : Value).ownBlock) (Kd.R_apart' (HO195.out) (Kd.S_typed HO_188000.out) (by decide)) (fun k_ hk => ⟨⟨hk.1.1, hk.1.2⟩, hk.2⟩))).1 k_ hk_.symm) ?aF ?aO ?aB ?aS ?aL ?_
      (case aP => exact k48_mkM _ _ _ (⟨(rd_T48 ((rd_T44 l0_3 x4_1).f0) x7_2).f0, y193⟩ : S48) (R_mono (Kd.R_tight rfl (R_mono (ok' := fun k_ => ((fun k_ => some k_ ≠ (.slice Ao12 y175.length co12 : Value).ownBlock ∧ some k_ ≠ (.slice Ao36 y184.length co36 : Value).ownBlock)) k_ ∧ some k_ ≠ (u188000 : Value).ownBlock) (Kd.R_apart' (HO195.out) (Kd.S_typed HO_188000.out) (by decide)) (fun k_ hk => ⟨⟨hk.1.1, hk.1.2⟩, hk.2⟩))) (fun _ h_ => h_)))
      (case aB => exact (by repeat with_reducible first | exact HB.out | apply below_alloc | apply pw_below_drewN | apply below_drew1 | refine below_set ?_ GE170.out | refine below_set ?_ GE171.out | refine below_set ?_ GE178.out | refine below_set ?_ GE180.out | refine below_set ?_ GE187.out))
      (case aF => exact (fun k_ hk => ⟨Kd.fresh' (R_lt (by (with_reducible repeat (first | apply R_alloc | apply R_drewN | apply R_drew)); exact HO_179002.out)) k_ hk, Kd.fresh' (R_lt (by (with_reducible repeat (first | apply R_alloc | apply R_drewN | apply R_drew)); exact HO_188004.out)) k_ hk⟩))
      (case aO => exact (by (with_reducible repeat (first | apply S_alloc | apply S_drewN | apply S_drew)); exact S_mono HO_188000.out (fun k_ hk => ⟨⟨hk.1.1, hk.1.2⟩, fun e_ => hk.2 e_⟩)))
      (case aS => exact (below_size (by repeat with_reducible first | exact HB.out | apply below_alloc | apply pw_below_drewN | apply below_drew1 | refine below_set ?_ GE170.out | refine below_set ?_ GE171.out | refine below_set ?_ GE178.out | refine below_set ?_ GE180.out | refine below_set ?_ GE187.out)))
      (case aL => have := LMc45.out; omega)
      intro v197 w56 ho hb hg hat
      rw [← Ny196.out] at ho
      have n0_ := Aside0.mk (Kd.R_over' (by (with_reducible repeat (first | apply R_alloc | apply R_drewN | apply R_drew)); exact HO_179002.out) (Kd.S_typed (by (with_reducible repeat (first | apply S_alloc | apply S_drewN | apply S_drew)); exact HO_188000.out)) (by decide) hg)
      have n1_ := Aside0.mk (Kd.R_after (ok := (fun k_ => some k_ ≠ (.slice Ao12 y175.length co12 : Value).ownBlock ∧ some k_ ≠ (.slice Ao36 y184.length co36 : Value).ownBlock ∧ some k_ ≠ (.slice Ao55 y193.length co55 : Value).ownBlock ∧ k_ ≠ gb180 ∧ k_ ≠ gb187)) (by (with_reducible repeat (first | apply R_alloc | apply R_drewN | apply R_drew)); exact R_mono HO_179003.out (fun _ hk => ⟨⟨hk.1.1, ⟨hk.1.2.2.1, ⟨hk.2, ⟨hk.1.2.2.2.1, hk.1.2.2.2.2⟩⟩⟩⟩, hk.1.2.1⟩)) hg hat)
      have n2_ := Aside0.mk (Kd.R_over' (by (with_reducible repeat (first | apply R_alloc | apply R_drewN | apply R_drew)); exact HO_188004.out) (Kd.S_typed (by (with_reducible repeat (first | apply S_alloc | apply S_drewN | apply S_drew)); exact HO_188000.out)) (by decide) hg)
      have n3_ := Aside0.mk (blk_grown (g := gb170) (o := .cells #[.int .i64 a0_0, .int .i64 a0_1, .slice A0_2 l0_2.length c0_2, .slice (some ad179) l0_3.length c0_3] 34 (0, 0)) (by (with_reducible repeat (first | refine blk_drewN ?_ _ | refine blk_drew ?_ | refine blk_alloc ?_ _)); exact BK170.out) hg (Kd.S_ne HO_188000.out BK170.out (by decide)))
      have n4_ := Aside0.mk (blk_grown (g := gb171) (o := .cells #[.int .i64 0, .int .i64 0, .slice none 0 0, .slice none 0 0] 34 (0, 0)) (by (with_reducible repeat (first | refine blk_drewN ?_ _ | refine blk_drew ?_ | refine blk_alloc ?_ _)); exact BK171.out) hg (Kd.S_ne HO_188000.out BK171.out (by decide)))
      have n5_ := Aside0.mk (blk_grown (g := gb178) (o := .cells #[.int .i64 a0_0, .int .i64 a0_1, .slice Ao12 y175.length co12, u179003] 34 (0, 0)) (by (with_reducible repeat (first | refine blk_drewN ?_ _ | refine blk_drew ?_ | refine blk_alloc ?_ _)); exact BK178.out) hg (Kd.S_ne HO_188000.out BK178.out (by decide)))
      have n6_ := Aside0.mk (blk_grown (g := gb180) (o := .cells #[.slice (some ad188) ((rd_T44 l0_3 x4_1).f0).length c179_0, .slice A179_1 ((rd_T44 l0_3 x4_1).f1).length c179_1, .int .i64 ((rd_T44 l0_3 x4_1).f2.f0), .int .i64 ((rd_T44 l0_3 x4_1).f2.f1), .slice A179_4 ((rd_T44 l0_3 x4_1).f2.f2).length c179_4] 44 (0, 0)) (by (with_reducible repeat (first | refine blk_drewN ?_ _ | refine blk_drew ?_ | refine blk_alloc ?_ _)); exact BK180.out) hg (Kd.S_ne HO_188000.out BK180.out (by decide)))
      have n7_ := Aside0.mk (blk_grown (g := gb187) (o := .cells #[u188000, .slice none 0 0, .int .i64 ((rd_T44 l0_3 x4_1).f2.f0), .int .i64 ((rd_T44 l0_3 x4_1).f2.f1), .slice Ao36 y184.length co36] 44 (0, 0)) (by (with_reducible repeat (first | refine blk_drewN ?_ _ | refine blk_drew ?_ | refine blk_alloc ?_ _)); exact BK187.out) hg (Kd.S_ne HO_188000.out BK187.out (by decide)))
      have n8_ := Aside0.mk (hb)
      have n9_ := Aside0.mk (ho)
      clear HO_179002
      clear HO_179003
      clear HO_188004
      clear BK170
      clear BK171
      clear BK178
      clear BK180
      clear BK187
      clear HB
      clear HO_188000
      clear HO195
      have HO_179002 := n0_
      have HO_179003 := n1_
      have HO_188004 := n2_
      have BK170 := n3_
      have BK171 := n4_
      have BK178 := n5_
      have BK180 := n6_
      have BK187 := n7_
      have HB := n8_
      have HO198 := n9_
      clear n0_ n1_ n2_ n3_ n4_ n5_ n6_ n7_ n8_ n9_
      clear ho hb hg hat
      obtain ⟨Ao57, co57, eo57⟩ := Kd.S_slice HO198.out
      (first | subst eo57 | (injection eo57 with f1_ f2_ f3_; have f4_ := f1_.symm; have f5_ := f3_.symm; clear f1_ f2_ f3_; subst f4_; subst f5_))
      refine hK.out _ _ ⟨(blk_cell BK187.out 0).trans rfl, (blk_cell BK187.out 1).trans rfl, (blk_cell BK187.out 2).trans rfl, (blk_cell BK187.out 3).trans rfl, (blk_cell BK187.out 4).trans rfl, (blk_cell BK180.out 0).trans rfl, (blk_cell BK180.out 1).trans rfl, (blk_cell BK180.out 2).trans rfl, (blk_cell BK180.out 3).trans rfl, (blk_cell BK180.out 4).trans rfl, ((HB.out.cell (World.block_lt_of_cell? w _ hw188_0)).trans hw188_0), ((HB.out.cell (World.block_lt_of_cell? w _ hw188_1)).trans hw188_1), ((HB.out.cell (World.block_lt_of_cell? w _ hw192_0)).trans hw192_0), ((HB.out.cell (World.block_lt_of_cell? w _ hw192_1)).trans hw192_1)⟩ (fun hHeld => ?_)
      clear hK K
      refine norm_ (a' := ?_) ?_ ?_
      rotate_left
      · show Act.put _ (some 69) _ = _
        simp only [Act.put, List.setIfInBounds_toArray, List.set_cons_zero, List.set_cons_succ, i64_w, i32_w]
        rfl
      refine pu 19 70 (bt 21 1048575) HT_.out ?_
      refine last_ (i := 20) (N := none) (bt 21 2097151) rfl rfl (one_of HT_.out (by kernel_rfl)) (by decide) (fun K hK => ?_)
      have hs58 : w56.cell? ⟨gb187, 0, none⟩ = some (u188000) := (blk_cell BK187.out 0).trans rfl
      have hfs58 := blk_frozen BK187.out 0
      have hns58_0 := NB170_187.out
      have hns58_1 := NB171_187.out
      have hns58_2 := NB178_187.out
      have hns58_3 := NB180_187.out
      have hms58_0 := NB187_170.out
      have hms58_1 := NB187_171.out
      have hms58_2 := NB187_178.out
      have hms58_3 := NB187_180.out
      refine skip_ (w1 := ?_) (by rfl) rfl ?_ ?_
      rotate_left
      · go_simp
        rfl
      refine hK.out _ _ ?_
      clear hK K
      refine done_ (done_of HT_.out (by kernel_rfl)) ?_
      try go_wp2
      go_roundg k2
      case measure => have := HK1.out; have := HK2.out; omega
      case rel => exact ⟨(wrap64 (x7_2 + 1)), (y196), (.slice Ao57 y196.length co57), (by first | rfl | (simp; done) | (simp [*]; done)), H', ⟨by have := HK1.out; have := HK2.out; omega⟩, ⟨by (with_reducible repeat (first | apply R_alloc | apply R_drewN | apply R_drew)); exact R_mono (Kd.R_far (p := ⟨gb187, 0, none⟩) (Kd.R_types HO_179002.out BK187.out (by decide)) (fun _ hk => hk.2) (.slice Ao57 y196.length co57)) (fun _ hk => hk.1.1)⟩, ⟨by (with_reducible repeat (first | apply R_alloc | apply R_drewN | apply R_drew)); exact R_mono (Kd.R_far (p := ⟨gb187, 0, none⟩) (R_mono HO_179003.out (fun k_ hk => (⟨hk, hk.1.2.2.2.2⟩ : _ ∧ k_ ≠ gb187))) (fun _ hk => hk.2) (.slice Ao57 y196.length co57)) (fun _ hk => ⟨hk.1.1.1, ⟨hk.1.2, ⟨hk.1.1.2.1, ⟨hk.1.1.2.2.2.1, hk.1.1.2.2.2.2⟩⟩⟩⟩)⟩, ⟨by (with_reducible repeat (first | apply S_alloc | apply S_drewN | apply S_drew)); exact S_mono (Kd.S_far (p := ⟨gb187, 0, none⟩) (Kd.S_types HO198.out BK187.out (by decide)) (fun _ hk => hk.2) (.slice Ao57 y196.length co57)) (fun _ hk => ⟨hk.1.1, hk.1.2⟩)⟩, ⟨by (with_reducible repeat (first | apply R_alloc | apply R_drewN | apply R_drew)); exact R_mono (Kd.R_far (p := ⟨gb187, 0, none⟩) (Kd.R_types HO_188004.out BK187.out (by decide)) (fun _ hk => hk.2) (.slice Ao57 y196.length co57)) (fun _ hk => hk.1.1)⟩, ⟨by (with_reducible repeat (first | refine blk_drewN ?_ _ | refine blk_drew ?_ | refine blk_alloc ?_ _)); refine blk_far ?_ NB170_187.out _; (with_reducible repeat (first | refine blk_drewN ?_ _ | refine blk_drew ?_ | refine blk_alloc ?_ _)); exact BK170.out⟩, ⟨by (with_reducible repeat (first | refine blk_drewN ?_ _ | refine blk_drew ?_ | refine blk_alloc ?_ _)); refine blk_far ?_ NB171_187.out _; (with_reducible repeat (first | refine blk_drewN ?_ _ | refine blk_drew ?_ | refine blk_alloc ?_ _)); exact BK171.out⟩, ⟨by (with_reducible repeat (first | refine blk_drewN ?_ _ | refine blk_drew ?_ | refine blk_alloc ?_ _)); refine blk_far ?_ NB178_187.out _; (with_reducible repeat (first | refine blk_drewN ?_ _ | refine blk_drew ?_ | refine blk_alloc ?_ _)); exact BK178.out⟩, ⟨by (with_reducible repeat (first | refine blk_drewN ?_ _ | refine blk_drew ?_ | refine blk_alloc ?_ _)); refine blk_far ?_ NB180_187.out _; (with_reducible repeat (first | refine blk_drewN ?_ _ | refine blk_drew ?_ | refine blk_alloc ?_ _)); exact BK180.out⟩, ⟨by (with_reducible repeat (first | refine blk_drewN ?_ _ | refine blk_drew ?_ | refine blk_alloc ?_ _)); refine blk_put (cs := #[u188000, .slice none 0 0, .int .i64 ((rd_T44 l0_3 x4_1).f2.f0), .int .i64 ((rd_T44 l0_3 x4_1).f2.f1), .slice Ao36 y184.length co36]) ?_ 0 _ rfl; (with_reducible repeat (first | refine blk_drewN ?_ _ | refine blk_drew ?_ | refine blk_alloc ?_ _)); exact BK187.out⟩, ⟨by repeat (first | (with_reducible first | exact HB.out | apply below_alloc | apply pw_below_drewN | apply below_drew1 | refine below_set ?_ GE170.out | refine below_set ?_ GE171.out | refine below_set ?_ GE178.out | refine below_set ?_ GE180.out | refine below_set ?_ GE187.out) | exact HB.out)⟩⟩
    rw [if_neg c42] at H
    have c42b0 : decide (x7_2 < (((rd_T44 l0_3 x4_1).f0).length : Int)) = false := decide_eq_false c42
    clear c42
    have H' := Aside0.mk H
    clear H
    have hnb59 := NB180_170.out
    have hnc59 := NB170_180.out
    have hnb60 := NB180_171.out
    have hnc60 := NB171_180.out
    have hnb61 := NB180_178.out
    have hnc61 := NB178_180.out
    have hnb62 := NB180_187.out
    have hnc62 := NB187_180.out
    have hcz63_0 : wr.cell? ⟨gb180, 0, none⟩ = some (.slice A179_0 ((rd_T44 l0_3 x4_1).f0).length c179_0) := (blk_cell BK180.out 0).trans rfl
    have hcz63_1 : wr.cell? ⟨gb180, 1, none⟩ = some (.slice A179_1 ((rd_T44 l0_3 x4_1).f1).length c179_1) := (blk_cell BK180.out 1).trans rfl
    have hcz63_2 : wr.cell? ⟨gb180, 2, none⟩ = some (.int .i64 ((rd_T44 l0_3 x4_1).f2.f0)) := (blk_cell BK180.out 2).trans rfl
    have hcz63_3 : wr.cell? ⟨gb180, 3, none⟩ = some (.int .i64 ((rd_T44 l0_3 x4_1).f2.f1)) := (blk_cell BK180.out 3).trans rfl
    have hcz63_4 : wr.cell? ⟨gb180, 4, none⟩ = some (.slice A179_4 ((rd_T44 l0_3 x4_1).f2.f2).length c179_4) := (blk_cell BK180.out 4).trans rfl
    have hfz63_0 := blk_frozen BK180.out 0
    have hfz63_1 := blk_frozen BK180.out 1
    have hfz63_2 := blk_frozen BK180.out 2
    have hfz63_3 := blk_frozen BK180.out 3
    have hfz63_4 := blk_frozen BK180.out 4
    go_wp2
    go_loopg [8] k2 (fun kq v8 w' => ∃ (x8_3 : Int) (x188001_3 : List (S46)) (u188001 : Value), v8 = .int .i64 x8_3 ∧ Aside0 (fettleref02_CopyFunc.l2 kq x4_1 x8_3 a0_0 a0_1 l0_2 l0_3 a0_0 a0_1 y175 x179003_1 ((rd_T44 l0_3 x4_1).f0) ((rd_T44 l0_3 x4_1).f1) ((rd_T44 l0_3 x4_1).f2.f0) ((rd_T44 l0_3 x4_1).f2.f1) ((rd_T44 l0_3 x4_1).f2.f2) x188000_2 x188001_3 ((rd_T44 l0_3 x4_1).f2.f0) ((rd_T44 l0_3 x4_1).f2.f1) y184 = some (r1, r2, r3, r4)) ∧ Aside0 (kq ≤ k2) ∧ Aside0 (Kd.R (Kd.int .i64) 3 w' w.heap.size (fun k_ => some k_ ≠ ((.slice Ao36 y184.length co36) : Value).ownBlock) (.slice Ao12 y175.length co12) y175) ∧ Aside0 (Kd.R k44 44 w' w.heap.size (fun k_ => some k_ ≠ ((.slice Ao12 y175.length co12) : Value).ownBlock ∧ some k_ ≠ (u188000 : Value).ownBlock ∧ some k_ ≠ (u188001 : Value).ownBlock ∧ some k_ ≠ ((.slice Ao36 y184.length co36) : Value).ownBlock ∧ k_ ≠ gb180 ∧ k_ ≠ gb187) u179003 x179003_1) ∧ Aside0 (Kd.S k48 48 w' w.heap.size (fun k_ => some k_ ≠ ((.slice Ao12 y175.length co12) : Value).ownBlock ∧ some k_ ≠ ((.slice Ao36 y184.length co36) : Value).ownBlock) u188000 x188000_2) ∧ Aside0 (Kd.S k46 46 w' w.heap.size (fun k_ => some k_ ≠ ((.slice Ao12 y175.length co12) : Value).ownBlock ∧ some k_ ≠ ((.slice Ao36 y184.length co36) : Value).ownBlock) u188001 x188001_3) ∧ Aside0 (Kd.R (Kd.int .i64) 3 w' w.heap.size (fun k_ => some k_ ≠ ((.slice Ao12 y175.length co12) : Value).ownBlock) (.slice Ao36 y184.length co36) y184) ∧ Aside0 (w'.heap[gb170]? = some (.cells #[.int .i64 a0_0, .int .i64 a0_1, (.slice A0_2 l0_2.length c0_2), (.slice (some ad179) l0_3.length c0_3)] 34 (0, 0))) ∧ Aside0 (w'.heap[gb171]? = some (.cells #[.int .i64 0, .int .i64 0, (.slice none 0 0), (.slice none 0 0)] 34 (0, 0))) ∧ Aside0 (w'.heap[gb178]? = some (.cells #[.int .i64 a0_0, .int .i64 a0_1, (.slice Ao12 y175.length co12), u179003] 34 (0, 0))) ∧ Aside0 (w'.heap[gb180]? = some (.cells #[(.slice A179_0 ((rd_T44 l0_3 x4_1).f0).length c179_0), (.slice A179_1 ((rd_T44 l0_3 x4_1).f1).length c179_1), .int .i64 ((rd_T44 l0_3 x4_1).f2.f0), .int .i64 ((rd_T44 l0_3 x4_1).f2.f1), (.slice A179_4 ((rd_T44 l0_3 x4_1).f2.f2).length c179_4)] 44 (0, 0))) ∧ Aside0 (w'.heap[gb187]? = some (.cells #[u188000, u188001, .int .i64 ((rd_T44 l0_3 x4_1).f2.f0), .int .i64 ((rd_T44 l0_3 x4_1).f2.f1), (.slice Ao36 y184.length co36)] 44 (0, 0))) ∧ Aside0 (Below w.heap.size w w'))
    case atStart => exact ⟨(0), (([] : List (S46))), (.slice none 0 0), (by first | rfl | (simp; done) | (simp [*]; done)), H', ⟨Nat.le_refl _⟩, ⟨by (with_reducible repeat (first | apply R_alloc | apply R_drewN | apply R_drew)); exact HO_179002.out⟩, ⟨by (with_reducible repeat (first | apply R_alloc | apply R_drewN | apply R_drew)); exact R_mono HO_179003.out (fun _ hk => ⟨hk.1, ⟨hk.2.1, ⟨(by simp [Value.ownBlock]), ⟨hk.2.2.1, ⟨hk.2.2.2.1, hk.2.2.2.2⟩⟩⟩⟩⟩)⟩, ⟨by (with_reducible repeat (first | apply S_alloc | apply S_drewN | apply S_drew)); exact HO_188000.out⟩, ⟨by first | exact Kd.S_nil _ _ _ _ _ | exact Kd.N_nil _ _ _ _ _ | exact Kd.V_nil _ _ _ _ _ | exact Kd.Q_nil _ _ _ _ _ | exact Kd.R_nil _ _ _ _ _⟩, ⟨by (with_reducible repeat (first | apply R_alloc | apply R_drewN | apply R_drew)); exact HO_188004.out⟩, ⟨by (with_reducible repeat (first | refine blk_drewN ?_ _ | refine blk_drew ?_ | refine blk_alloc ?_ _)); exact BK170.out⟩, ⟨by (with_reducible repeat (first | refine blk_drewN ?_ _ | refine blk_drew ?_ | refine blk_alloc ?_ _)); exact BK171.out⟩, ⟨by (with_reducible repeat (first | refine blk_drewN ?_ _ | refine blk_drew ?_ | refine blk_alloc ?_ _)); exact BK178.out⟩, ⟨by (with_reducible repeat (first | refine blk_drewN ?_ _ | refine blk_drew ?_ | refine blk_alloc ?_ _)); exact BK180.out⟩, ⟨by (with_reducible repeat (first | refine blk_drewN ?_ _ | refine blk_drew ?_ | refine blk_alloc ?_ _)); exact BK187.out⟩, ⟨by repeat (first | (with_reducible first | exact HB.out | apply below_alloc | apply pw_below_drewN | apply below_drew1 | refine below_set ?_ GE170.out | refine below_set ?_ GE171.out | refine below_set ?_ GE178.out | refine below_set ?_ GE180.out | refine below_set ?_ GE187.out) | exact HB.out)⟩⟩
    clear H'
    try clear c1
    try clear p1
    try clear q1
    try clear hx1
    try clear p2
    try clear c4
    try clear c5
    try clear c6
    try clear p6
    try clear c17
    try clear c18
    try clear p18
    try clear q18
    try clear hx18
    try clear c19
    try clear p19
    try clear q19
    try clear hx19
    try clear c42
    try clear c42b0
    try clear c43
    try clear c43b0
    try clear c44
    try clear c45
    try clear c46
    try clear c47
    try clear c48
    try clear c49
    try clear c59
    try clear c60
    try clear c61
    try clear c62
    try clear hcz50_0
    try clear hcz50_1
    try clear hcz50_2
    try clear hcz50_3
    try clear hcz50_4
    try clear hcz63_0
    try clear hcz63_1
    try clear hcz63_2
    try clear hcz63_3
    try clear hcz63_4
    try clear hfz50_0
    try clear hfz50_1
    try clear hfz50_2
    try clear hfz50_3
    try clear hfz50_4
    try clear hfz63_0
    try clear hfz63_1
    try clear hfz63_2
    try clear hfz63_3
    try clear hfz63_4
    try clear hx188_0
    try clear hx188_1
    try clear hx192_0
    try clear hx192_1
    try clear p188
    try clear p192
    try clear p2
    try clear q188
    try clear q192
    obtain ⟨x8_3, x188001_3, u188001, rfl, HA, HK3, HO_179002, HO_179003, HO_188000, HO_188001, HO_188004, BK170, BK171, BK178, BK180, BK187, HB⟩ := hrel
    rcases gk with _ | k3
    · exact absurd HA.out (by simp [fettleref02_CopyFunc.l2])
    have H := HA.out
    clear HA
    simp only [fettleref02_CopyFunc.l2] at H
    by_cases c64 : x8_3 < (((rd_T44 l0_3 x4_1).f1).length : Int)
    · rw [if_pos c64] at H
      have c64b0 : decide (x8_3 < (((rd_T44 l0_3 x4_1).f1).length : Int)) = true := decide_eq_true c64
      clear c64
      by_cases c65 : 0 ≤ x8_3
      rotate_left
      · rw [if_neg c65] at H
        exact absurd H (by simp)
      rw [if_pos c65] at H
      have c65b0 : decide (0 ≤ x8_3) = true := decide_eq_true c65
      clear c65
      obtain ⟨y201, hy201⟩ : ∃ y_ : List Int, y_ = (([] : List Int)) := ⟨_, rfl⟩
      replace H : (if y201.length + ((rd_T46 ((rd_T44 l0_3 x4_1).f1) x8_3).f2).length < 17592186044416 then (if x188001_3.length < 2513169434916 then (fettleref02_CopyFunc.l2 k3 x4_1 (wrap64 (x8_3 + 1)) a0_0 a0_1 l0_2 l0_3 a0_0 a0_1 y175 x179003_1 ((rd_T44 l0_3 x4_1).f0) ((rd_T44 l0_3 x4_1).f1) ((rd_T44 l0_3 x4_1).f2.f0) ((rd_T44 l0_3 x4_1).f2.f1) ((rd_T44 l0_3 x4_1).f2.f2) x188000_2 (x188001_3 ++ [(⟨(rd_T46 ((rd_T44 l0_3 x4_1).f1) x8_3).f0, (rd_T46 ((rd_T44 l0_3 x4_1).f1) x8_3).f1, (y201 ++ ((rd_T46 ((rd_T44 l0_3 x4_1).f1) x8_3).f2)), (rd_T46 ((rd_T44 l0_3 x4_1).f1) x8_3).f3, (rd_T46 ((rd_T44 l0_3 x4_1).f1) x8_3).f4⟩ : S46)]) ((rd_T44 l0_3 x4_1).f2.f0) ((rd_T44 l0_3 x4_1).f2.f1) y184) else (none)) else (none)) = some (r1, r2, r3, r4) := by first | (rw [hy201]; with_reducible exact H) | (have H2_ := (Option.bind_some _ _).symm.trans H; rw [hy201]; with_reducible exact H2_) | exact H
      have Ny201 := Aside0.mk hy201
      clear hy201
      by_cases c66 : y201.length + ((rd_T46 ((rd_T44 l0_3 x4_1).f1) x8_3).f2).length < 17592186044416
      rotate_left
      · rw [if_neg c66] at H
        exact absurd H (by simp)
      rw [if_pos c66] at H
      have LMc66 := Aside0.mk c66
      clear c66
      obtain ⟨y204, hy204⟩ : ∃ y_ : List Int, y_ = (y201 ++ ((rd_T46 ((rd_T44 l0_3 x4_1).f1) x8_3).f2)) := ⟨_, rfl⟩
      replace H : (if x188001_3.length < 2513169434916 then (fettleref02_CopyFunc.l2 k3 x4_1 (wrap64 (x8_3 + 1)) a0_0 a0_1 l0_2 l0_3 a0_0 a0_1 y175 x179003_1 ((rd_T44 l0_3 x4_1).f0) ((rd_T44 l0_3 x4_1).f1) ((rd_T44 l0_3 x4_1).f2.f0) ((rd_T44 l0_3 x4_1).f2.f1) ((rd_T44 l0_3 x4_1).f2.f2) x188000_2 (x188001_3 ++ [(⟨(rd_T46 ((rd_T44 l0_3 x4_1).f1) x8_3).f0, (rd_T46 ((rd_T44 l0_3 x4_1).f1) x8_3).f1, y204, (rd_T46 ((rd_T44 l0_3 x4_1).f1) x8_3).f3, (rd_T46 ((rd_T44 l0_3 x4_1).f1) x8_3).f4⟩ : S46)]) ((rd_T44 l0_3 x4_1).f2.f0) ((rd_T44 l0_3 x4_1).f2.f1) y184) else (none)) = some (r1, r2, r3, r4) := by first | (rw [hy204]; with_reducible exact H) | (have H2_ := (Option.bind_some _ _).symm.trans H; rw [hy204]; with_reducible exact H2_) | exact H
      have Ny204 := Aside0.mk hy204
      clear hy204
      by_cases c67 : x188001_3.length < 2513169434916
      rotate_left
      · rw [if_neg c67] at H
        exact absurd H (by simp)
      rw [if_pos c67] at H
      have LMc67 := Aside0.mk c67
      clear c67
      obtain ⟨y207, hy207⟩ : ∃ y_ : List (S46), y_ = (x188001_3 ++ [(⟨(rd_T46 ((rd_T44 l0_3 x4_1).f1) x8_3).f0, (rd_T46 ((rd_T44 l0_3 x4_1).f1) x8_3).f1, y204, (rd_T46 ((rd_T44 l0_3 x4_1).f1) x8_3).f3, (rd_T46 ((rd_T44 l0_3 x4_1).f1) x8_3).f4⟩ : S46)]) := ⟨_, rfl⟩
      replace H : (fettleref02_CopyFunc.l2 k3 x4_1 (wrap64 (x8_3 + 1)) a0_0 a0_1 l0_2 l0_3 a0_0 a0_1 y175 x179003_1 ((rd_T44 l0_3 x4_1).f0) ((rd_T44 l0_3 x4_1).f1) ((rd_T44 l0_3 x4_1).f2.f0) ((rd_T44 l0_3 x4_1).f2.f1) ((rd_T44 l0_3 x4_1).f2.f2) x188000_2 y207 ((rd_T44 l0_3 x4_1).f2.f0) ((rd_T44 l0_3 x4_1).f2.f1) y184) = some (r1, r2, r3, r4) := by first | (rw [hy207]; with_reducible exact H) | (have H2_ := (Option.bind_some _ _).symm.trans H; rw [hy207]; with_reducible exact H2_) | exact H
      have Ny207 := Aside0.mk hy207
      clear hy207
      have H' := Aside0.mk H
      clear H
      have hnb68 := NB180_170.out
      have hnc68 := NB170_180.out
      have hnb69 := NB180_171.out
      have hnc69 := NB171_180.out
      have hnb70 := NB180_178.out
      have hnc70 := NB178_180.out
      have hnb71 := NB180_187.out
      have hnc71 := NB187_180.out
      have hcz72_0 : wr.cell? ⟨gb180, 0, none⟩ = some (.slice A179_0 ((rd_T44 l0_3 x4_1).f0).length c179_0) := (blk_cell BK180.out 0).trans rfl
      have hcz72_1 : wr.cell? ⟨gb180, 1, none⟩ = some (.slice A179_1 ((rd_T44 l0_3 x4_1).f1).length c179_1) := (blk_cell BK180.out 1).trans rfl
      have hcz72_2 : wr.cell? ⟨gb180, 2, none⟩ = some (.int .i64 ((rd_T44 l0_3 x4_1).f2.f0)) := (blk_cell BK180.out 2).trans rfl
      have hcz72_3 : wr.cell? ⟨gb180, 3, none⟩ = some (.int .i64 ((rd_T44 l0_3 x4_1).f2.f1)) := (blk_cell BK180.out 3).trans rfl
      have hcz72_4 : wr.cell? ⟨gb180, 4, none⟩ = some (.slice A179_4 ((rd_T44 l0_3 x4_1).f2.f2).length c179_4) := (blk_cell BK180.out 4).trans rfl
      have hfz72_0 := blk_frozen BK180.out 0
      have hfz72_1 := blk_frozen BK180.out 1
      have hfz72_2 := blk_frozen BK180.out 2
      have hfz72_3 := blk_frozen BK180.out 3
      have hfz72_4 := blk_frozen BK180.out 4
      have p199 : 0 ≤ (x8_3 : Int) := of_decide_eq_true (by with_reducible assumption)
      have q199 : x8_3 < (((rd_T44 l0_3 x4_1).f1).length : Int) := of_decide_eq_true (by with_reducible assumption)
      obtain ⟨ad199, A199_2, c199_2, e199, hx199_0, hx199_1, hx199_2, hx199_3, hx199_4, hl199_2, hi199_2⟩ := at_T46 HR179_1.out x8_3 p199 q199
      cases e199
      replace hx199_0 := (HB.out.cell (World.block_lt_of_cell? w _ hx199_0)).trans hx199_0
      replace hx199_1 := (HB.out.cell (World.block_lt_of_cell? w _ hx199_1)).trans hx199_1
      replace hx199_2 := (HB.out.cell (World.block_lt_of_cell? w _ hx199_2)).trans hx199_2
      replace hx199_3 := (HB.out.cell (World.block_lt_of_cell? w _ hx199_3)).trans hx199_3
      replace hx199_4 := (HB.out.cell (World.block_lt_of_cell? w _ hx199_4)).trans hx199_4
      have HR199_2 := Aside0.mk hi199_2
      have HC199_2 := Aside0.mk hl199_2
      clear hi199_2 hl199_2
      replace p199 := eq_true p199
      replace q199 := eq_true q199
      go_wp2_with (first | ((with_reducible refine gate_dst (N := 9) rfl ?_); refine box_event ?hg (N := 9) ?hd (cs := #[.int .i64 0, .int .i64 0, .slice none 0 0, .int .i64 0, .int .i64 0]) (t := 46) ?hr ?_; (case hd => rfl); (case hg => rfl); (case hr => first | (go_simp; done) | (go_simp; rfl)); intro gb200 hg w73 hbox hb; have n0_ := Aside0.mk (Kd.R_below (by (with_reducible repeat (first | apply R_alloc | apply R_drewN | apply R_drew)); exact HO_179002.out) hb); have n1_ := Aside0.mk (Kd.R_below (Kd.R_elderB (by (with_reducible repeat (first | apply R_alloc | apply R_drewN | apply R_drew)); exact HO_179003.out) gb200 (Nat.le_of_eq hg.symm)) hb); have n2_ := Aside0.mk (Kd.S_below (by (with_reducible repeat (first | apply S_alloc | apply S_drewN | apply S_drew)); exact HO_188000.out) hb); have n3_ := Aside0.mk (Kd.S_below (Kd.S_elderB (by (with_reducible repeat (first | apply S_alloc | apply S_drewN | apply S_drew)); exact HO_188001.out) gb200 (Nat.le_of_eq hg.symm)) hb); have n4_ := Aside0.mk (Kd.R_below (by (with_reducible repeat (first | apply R_alloc | apply R_drewN | apply R_drew)); exact HO_188004.out) hb); have n5_ := Aside0.mk (blk_below (g := gb170) (o := .cells #[.int .i64 a0_0, .int .i64 a0_1, .slice A0_2 l0_2.length c0_2, .slice (some ad179) l0_3.length c0_3] 34 (0, 0)) (by (with_reducible repeat (first | refine blk_drewN ?_ _ | refine blk_drew ?_ | refine blk_alloc ?_ _)); exact BK170.out) hb); have n6_ := Aside0.mk (blk_below (g := gb171) (o := .cells #[.int .i64 0, .int .i64 0, .slice none 0 0, .slice none 0 0] 34 (0, 0)) (by (with_reducible repeat (first | refine blk_drewN ?_ _ | refine blk_drew ?_ | refine blk_alloc ?_ _)); exact BK171.out) hb); have n7_ := Aside0.mk (blk_below (g := gb178) (o := .cells #[.int .i64 a0_0, .int .i64 a0_1, .slice Ao12 y175.length co12, u179003] 34 (0, 0)) (by (with_reducible repeat (first | refine blk_drewN ?_ _ | refine blk_drew ?_ | refine blk_alloc ?_ _)); exact BK178.out) hb); have n8_ := Aside0.mk (blk_below (g := gb180) (o := .cells #[.slice A179_0 ((rd_T44 l0_3 x4_1).f0).length c179_0, .slice (some ad199) ((rd_T44 l0_3 x4_1).f1).length c179_1, .int .i64 ((rd_T44 l0_3 x4_1).f2.f0), .int .i64 ((rd_T44 l0_3 x4_1).f2.f1), .slice A179_4 ((rd_T44 l0_3 x4_1).f2.f2).length c179_4] 44 (0, 0)) (by (with_reducible repeat (first | refine blk_drewN ?_ _ | refine blk_drew ?_ | refine blk_alloc ?_ _)); exact BK180.out) hb); have n9_ := Aside0.mk (blk_below (g := gb187) (o := .cells #[u188000, u188001, .int .i64 ((rd_T44 l0_3 x4_1).f2.f0), .int .i64 ((rd_T44 l0_3 x4_1).f2.f1), .slice Ao36 y184.length co36] 44 (0, 0)) (by (with_reducible repeat (first | refine blk_drewN ?_ _ | refine blk_drew ?_ | refine blk_alloc ?_ _)); exact BK187.out) hb); have n10_ := Aside0.mk (below_step (by repeat with_reducible first | exact HB.out | apply below_alloc | apply pw_below_drewN | apply below_drew1 | refine below_set ?_ GE170.out | refine below_set ?_ GE171.out | refine below_set ?_ GE178.out | refine below_set ?_ GE180.out | refine below_set ?_ GE187.out) hb); have n11_ := Aside0.mk (hbox); have n12_ := Aside0.mk ((by rw [hg]; exact (below_size (by repeat with_reducible first | exact HB.out | apply below_alloc | apply pw_below_drewN | apply below_drew1 | refine below_set ?_ GE170.out | refine below_set ?_ GE171.out | refine below_set ?_ GE178.out | refine below_set ?_ GE180.out | refine below_set ?_ GE187.out)) : w.heap.size ≤ gb200)); have n13_ := Aside0.mk ((by rw [hg]; exact (below_size (by repeat with_reducible first | exact HB.out | apply below_alloc | apply pw_below_drewN | apply below_drew1 | refine below_set ?_ GE170.out | refine below_set ?_ GE171.out | refine below_set ?_ GE178.out | refine below_set ?_ GE180.out | refine below_set ?_ GE187.out)) : w.heap.size ≤ gb200)); have n14_ := Aside0.mk ((by rw [hg]; exact Nat.ne_of_lt (blk_lt (g := gb170) (o := .cells #[.int .i64 a0_0, .int .i64 a0_1, .slice A0_2 l0_2.length c0_2, .slice (some ad179) l0_3.length c0_3] 34 (0, 0)) (by (with_reducible repeat (first | refine blk_drewN ?_ _ | refine blk_drew ?_ | refine blk_alloc ?_ _)); exact BK170.out)) : gb170 ≠ gb200)); have n15_ := Aside0.mk ((by rw [hg]; exact Nat.ne_of_gt (blk_lt (g := gb170) (o := .cells #[.int .i64 a0_0, .int .i64 a0_1, .slice A0_2 l0_2.length c0_2, .slice (some ad179) l0_3.length c0_3] 34 (0, 0)) (by (with_reducible repeat (first | refine blk_drewN ?_ _ | refine blk_drew ?_ | refine blk_alloc ?_ _)); exact BK170.out)) : gb200 ≠ gb170)); have n16_ := Aside0.mk ((by rw [hg]; exact Nat.ne_of_lt (blk_lt (g := gb171) (o := .cells #[.int .i64 0, .int .i64 0, .slice none 0 0, .slice none 0 0] 34 (0, 0)) (by (with_reducible repeat (first | refine blk_drewN ?_ _ | refine blk_drew ?_ | refine blk_alloc ?_ _)); exact BK171.out)) : gb171 ≠ gb200)); have n17_ := Aside0.mk ((by rw [hg]; exact Nat.ne_of_gt (blk_lt (g := gb171) (o := .cells #[.int .i64 0, .int .i64 0, .slice none 0 0, .slice none 0 0] 34 (0, 0)) (by (with_reducible repeat (first | refine blk_drewN ?_ _ | refine blk_drew ?_ | refine blk_alloc ?_ _)); exact BK171.out)) : gb200 ≠ gb171)); have n18_ := Aside0.mk ((by rw [hg]; exact Nat.ne_of_lt (blk_lt (g := gb178) (o := .cells #[.int .i64 a0_0, .int .i64 a0_1, .slice Ao12 y175.length co12, u179003] 34 (0, 0)) (by (with_reducible repeat (first | refine blk_drewN ?_ _ | refine blk_drew ?_ | refine blk_alloc ?_ _)); exact BK178.out)) : gb178 ≠ gb200)); have n19_ := Aside0.mk ((by rw [hg]; exact Nat.ne_of_gt (blk_lt (g := gb178) (o := .cells #[.int .i64 a0_0, .int .i64 a0_1, .slice Ao12 y175.length co12, u179003] 34 (0, 0)) (by (with_reducible repeat (first | refine blk_drewN ?_ _ | refine blk_drew ?_ | refine blk_alloc ?_ _)); exact BK178.out)) : gb200 ≠ gb178)); have n20_ := Aside0.mk ((by rw [hg]; exact Nat.ne_of_lt (blk_lt (g := gb180) (o := .cells #[.slice A179_0 ((rd_T44 l0_3 x4_1).f0).length c179_0, .slice (some ad199) ((rd_T44 l0_3 x4_1).f1).length c179_1, .int .i64 ((rd_T44 l0_3 x4_1).f2.f0), .int .i64 ((rd_T44 l0_3 x4_1).f2.f1), .slice A179_4 ((rd_T44 l0_3 x4_1).f2.f2).length c179_4] 44 (0, 0)) (by (with_reducible repeat (first | refine blk_drewN ?_ _ | refine blk_drew ?_ | refine blk_alloc ?_ _)); exact BK180.out)) : gb180 ≠ gb200)); have n21_ := Aside0.mk ((by rw [hg]; exact Nat.ne_of_gt (blk_lt (g := gb180) (o := .cells #[.slice A179_0 ((rd_T44 l0_3 x4_1).f0).length c179_0, .slice (some ad199) ((rd_T44 l0_3 x4_1).f1).length c179_1, .int .i64 ((rd_T44 l0_3 x4_1).f2.f0), .int .i64 ((rd_T44 l0_3 x4_1).f2.f1), .slice A179_4 ((rd_T44 l0_3 x4_1).f2.f2).length c179_4] 44 (0, 0)) (by (with_reducible repeat (first | refine blk_drewN ?_ _ | refine blk_drew ?_ | refine blk_alloc ?_ _)); exact BK180.out)) : gb200 ≠ gb180)); have n22_ := Aside0.mk ((by rw [hg]; exact Nat.ne_of_lt (blk_lt (g := gb187) (o := .cells #[u188000, u188001, .int .i64 ((rd_T44 l0_3 x4_1).f2.f0), .int .i64 ((rd_T44 l0_3 x4_1).f2.f1), .slice Ao36 y184.length co36] 44 (0, 0)) (by (with_reducible repeat (first | refine blk_drewN ?_ _ | refine blk_drew ?_ | refine blk_alloc ?_ _)); exact BK187.out)) : gb187 ≠ gb200)); have n23_ := Aside0.mk ((by rw [hg]; exact Nat.ne_of_gt (blk_lt (g := gb187) (o := .cells #[u188000, u188001, .int .i64 ((rd_T44 l0_3 x4_1).f2.f0), .int .i64 ((rd_T44 l0_3 x4_1).f2.f1), .slice Ao36 y184.length co36] 44 (0, 0)) (by (with_reducible repeat (first | refine blk_drewN ?_ _ | refine blk_drew ?_ | refine blk_alloc ?_ _)); exact BK187.out)) : gb200 ≠ gb187)); clear HO_179002; clear HO_179003; clear HO_188000; clear HO_188001; clear HO_188004; clear BK170; clear BK171; clear BK178; clear BK180; clear BK187; clear HB; have HO_179002 := n0_; have HO_179003 := n1_; have HO_188000 := n2_; have HO_188001 := n3_; have HO_188004 := n4_; have BK170 := n5_; have BK171 := n6_; have BK178 := n7_; have BK180 := n8_; have BK187 := n9_; have HB := n10_; have BK200 := n11_; have GW200 := n12_; have GE200 := n13_; have NB170_200 := n14_; have NB200_170 := n15_; have NB171_200 := n16_; have NB200_171 := n17_; have NB178_200 := n18_; have NB200_178 := n19_; have NB180_200 := n20_; have NB200_180 := n21_; have NB187_200 := n22_; have NB200_187 := n23_; clear n0_ n1_ n2_ n3_ n4_ n5_ n6_ n7_ n8_ n9_ n10_ n11_ n12_ n13_ n14_ n15_ n16_ n17_ n18_ n19_ n20_ n21_ n22_ n23_; clear hb hbox hg; have hnb74 := NB200_170.out; have hnc74 := NB170_200.out; have hnb75 := NB200_171.out; have hnc75 := NB171_200.out; have hnb76 := NB200_178.out; have hnc76 := NB178_200.out; have hnb77 := NB200_180.out; have hnc77 := NB180_200.out; have hnb78 := NB200_187.out; have hnc78 := NB187_200.out; have hcz79_0 : w73.cell? ⟨gb200, 0, none⟩ = some (.int .i64 0) := (blk_cell BK200.out 0).trans rfl; have hcz79_1 : w73.cell? ⟨gb200, 1, none⟩ = some (.int .i64 0) := (blk_cell BK200.out 1).trans rfl; have hcz79_2 : w73.cell? ⟨gb200, 2, none⟩ = some (.slice none 0 0) := (blk_cell BK200.out 2).trans rfl; have hcz79_3 : w73.cell? ⟨gb200, 3, none⟩ = some (.int .i64 0) := (blk_cell BK200.out 3).trans rfl; have hcz79_4 : w73.cell? ⟨gb200, 4, none⟩ = some (.int .i64 0) := (blk_cell BK200.out 4).trans rfl; have hfz79_0 := blk_frozen BK200.out 0; have hfz79_1 := blk_frozen BK200.out 1; have hfz79_2 := blk_frozen BK200.out 2; have hfz79_3 := blk_frozen BK200.out 3; have hfz79_4 := blk_frozen BK200.out 4) | ((with_reducible refine gate_dst (N := 83) rfl ?_); refine Kd.R_lit (Kd.int .i64) _ 3 ?hg (N := 83) ?hd (xs := ([] : List Int)) (inner := []) (ok := fun _ => True) (okp := fun _ => True) ?hr ?hp (fun _ hk => hk) trivial (Below.refl _ _) (Nat.le_refl _) (by simp) ?_; (case hd => rfl); (case hg => rfl); (case hr => first | (go_simp; done) | (go_simp; rfl)); (case hp => exact (Reps.none _ _)); intro v202 w80 ho81 hb hg_ hnew_; clear hg_ hnew_; rw [← Ny201.out] at ho81; have n0_ := Aside0.mk (R_elder' (by (with_reducible repeat (first | apply R_alloc | apply R_drewN | apply R_drew)); exact (R_mono (Kd.R_far (p := ⟨gb200, 4, none⟩) (Kd.R_far (p := ⟨gb200, 3, none⟩) (Kd.R_far (p := ⟨gb200, 2, none⟩) (Kd.R_far (p := ⟨gb200, 1, none⟩) (Kd.R_far (p := ⟨gb200, 0, none⟩) (Kd.R_types HO_179002.out BK200.out (by decide)) (fun _ hk => hk.2) (.int .i64 ((rd_T46 ((rd_T44 l0_3 x4_1).f1) x8_3).f0))) (fun _ hk => hk.2) (.int .i64 ((rd_T46 ((rd_T44 l0_3 x4_1).f1) x8_3).f1))) (fun _ hk => hk.2) (.slice A199_2 ((rd_T46 ((rd_T44 l0_3 x4_1).f1) x8_3).f2).length c199_2)) (fun _ hk => hk.2) (.int .i64 ((rd_T46 ((rd_T44 l0_3 x4_1).f1) x8_3).f3))) (fun _ hk => hk.2) (.int .i64 ((rd_T46 ((rd_T44 l0_3 x4_1).f1) x8_3).f4))) (fun _ h_ => h_.1))) (R_base ho81) hb); have n1_ := Aside0.mk (R_elder' (by (with_reducible repeat (first | apply R_alloc | apply R_drewN | apply R_drew)); exact (R_mono (Kd.R_far (p := ⟨gb200, 4, none⟩) (Kd.R_far (p := ⟨gb200, 3, none⟩) (Kd.R_far (p := ⟨gb200, 2, none⟩) (Kd.R_far (p := ⟨gb200, 1, none⟩) (Kd.R_far (p := ⟨gb200, 0, none⟩) (R_mono HO_179003.out (fun k_ hk => (⟨hk, hk.2⟩ : _ ∧ k_ ≠ gb200))) (fun _ hk => hk.2) (.int .i64 ((rd_T46 ((rd_T44 l0_3 x4_1).f1) x8_3).f0))) (fun _ hk => hk.2) (.int .i64 ((rd_T46 ((rd_T44 l0_3 x4_1).f1) x8_3).f1))) (fun _ hk => hk.2) (.slice A199_2 ((rd_T46 ((rd_T44 l0_3 x4_1).f1) x8_3).f2).length c199_2)) (fun _ hk => hk.2) (.int .i64 ((rd_T46 ((rd_T44 l0_3 x4_1).f1) x8_3).f3))) (fun _ hk => hk.2) (.int .i64 ((rd_T46 ((rd_T44 l0_3 x4_1).f1) x8_3).f4))) (fun _ h_ => h_.1))) (R_base ho81) hb); have n2_ := Aside0.mk (Kd.S_elder' (by (with_reducible repeat (first | apply S_alloc | apply S_drewN | apply S_drew)); exact (S_mono (Kd.S_far (p := ⟨gb200, 4, none⟩) (Kd.S_far (p := ⟨gb200, 3, none⟩) (Kd.S_far (p := ⟨gb200, 2, none⟩) (Kd.S_far (p := ⟨gb200, 1, none⟩) (Kd.S_far (p := ⟨gb200, 0, none⟩) (Kd.S_types HO_188000.out BK200.out (by decide)) (fun _ hk => hk.2) (.int .i64 ((rd_T46 ((rd_T44 l0_3 x4_1).f1) x8_3).f0))) (fun _ hk => hk.2) (.int .i64 ((rd_T46 ((rd_T44 l0_3 x4_1).f1) x8_3).f1))) (fun _ hk => hk.2) (.slice A199_2 ((rd_T46 ((rd_T44 l0_3 x4_1).f1) x8_3).f2).length c199_2)) (fun _ hk => hk.2) (.int .i64 ((rd_T46 ((rd_T44 l0_3 x4_1).f1) x8_3).f3))) (fun _ hk => hk.2) (.int .i64 ((rd_T46 ((rd_T44 l0_3 x4_1).f1) x8_3).f4))) (fun _ h_ => h_.1))) (R_base ho81) hb); have n3_ := Aside0.mk (Kd.S_elder' (by (with_reducible repeat (first | apply S_alloc | apply S_drewN | apply S_drew)); exact (S_mono (Kd.S_far (p := ⟨gb200, 4, none⟩) (Kd.S_far (p := ⟨gb200, 3, none⟩) (Kd.S_far (p := ⟨gb200, 2, none⟩) (Kd.S_far (p := ⟨gb200, 1, none⟩) (Kd.S_far (p := ⟨gb200, 0, none⟩) (S_mono HO_188001.out (fun k_ hk => (⟨hk, hk.2⟩ : _ ∧ k_ ≠ gb200))) (fun _ hk => hk.2) (.int .i64 ((rd_T46 ((rd_T44 l0_3 x4_1).f1) x8_3).f0))) (fun _ hk => hk.2) (.int .i64 ((rd_T46 ((rd_T44 l0_3 x4_1).f1) x8_3).f1))) (fun _ hk => hk.2) (.slice A199_2 ((rd_T46 ((rd_T44 l0_3 x4_1).f1) x8_3).f2).length c199_2)) (fun _ hk => hk.2) (.int .i64 ((rd_T46 ((rd_T44 l0_3 x4_1).f1) x8_3).f3))) (fun _ hk => hk.2) (.int .i64 ((rd_T46 ((rd_T44 l0_3 x4_1).f1) x8_3).f4))) (fun _ h_ => h_.1))) (R_base ho81) hb); have n4_ := Aside0.mk (R_elder' (by (with_reducible repeat (first | apply R_alloc | apply R_drewN | apply R_drew)); exact (R_mono (Kd.R_far (p := ⟨gb200, 4, none⟩) (Kd.R_far (p := ⟨gb200, 3, none⟩) (Kd.R_far (p := ⟨gb200, 2, none⟩) (Kd.R_far (p := ⟨gb200, 1, none⟩) (Kd.R_far (p := ⟨gb200, 0, none⟩) (Kd.R_types HO_188004.out BK200.out (by decide)) (fun _ hk => hk.2) (.int .i64 ((rd_T46 ((rd_T44 l0_3 x4_1).f1) x8_3).f0))) (fun _ hk => hk.2) (.int .i64 ((rd_T46 ((rd_T44 l0_3 x4_1).f1) x8_3).f1))) (fun _ hk => hk.2) (.slice A199_2 ((rd_T46 ((rd_T44 l0_3 x4_1).f1) x8_3).f2).length c199_2)) (fun _ hk => hk.2) (.int .i64 ((rd_T46 ((rd_T44 l0_3 x4_1).f1) x8_3).f3))) (fun _ hk => hk.2) (.int .i64 ((rd_T46 ((rd_T44 l0_3 x4_1).f1) x8_3).f4))) (fun _ h_ => h_.1))) (R_base ho81) hb); have n5_ := Aside0.mk (Kd.R_lower (R_new' (R_new' ho81 (R_lt (by (with_reducible repeat (first | apply R_alloc | apply R_drewN | apply R_drew)); exact (R_mono (Kd.R_far (p := ⟨gb200, 4, none⟩) (Kd.R_far (p := ⟨gb200, 3, none⟩) (Kd.R_far (p := ⟨gb200, 2, none⟩) (Kd.R_far (p := ⟨gb200, 1, none⟩) (Kd.R_far (p := ⟨gb200, 0, none⟩) (Kd.R_types HO_179002.out BK200.out (by decide)) (fun _ hk => hk.2) (.int .i64 ((rd_T46 ((rd_T44 l0_3 x4_1).f1) x8_3).f0))) (fun _ hk => hk.2) (.int .i64 ((rd_T46 ((rd_T44 l0_3 x4_1).f1) x8_3).f1))) (fun _ hk => hk.2) (.slice A199_2 ((rd_T46 ((rd_T44 l0_3 x4_1).f1) x8_3).f2).length c199_2)) (fun _ hk => hk.2) (.int .i64 ((rd_T46 ((rd_T44 l0_3 x4_1).f1) x8_3).f3))) (fun _ hk => hk.2) (.int .i64 ((rd_T46 ((rd_T44 l0_3 x4_1).f1) x8_3).f4))) (fun _ h_ => h_.1))))) (R_lt (by (with_reducible repeat (first | apply R_alloc | apply R_drewN | apply R_drew)); exact (R_mono (Kd.R_far (p := ⟨gb200, 4, none⟩) (Kd.R_far (p := ⟨gb200, 3, none⟩) (Kd.R_far (p := ⟨gb200, 2, none⟩) (Kd.R_far (p := ⟨gb200, 1, none⟩) (Kd.R_far (p := ⟨gb200, 0, none⟩) (Kd.R_types HO_188004.out BK200.out (by decide)) (fun _ hk => hk.2) (.int .i64 ((rd_T46 ((rd_T44 l0_3 x4_1).f1) x8_3).f0))) (fun _ hk => hk.2) (.int .i64 ((rd_T46 ((rd_T44 l0_3 x4_1).f1) x8_3).f1))) (fun _ hk => hk.2) (.slice A199_2 ((rd_T46 ((rd_T44 l0_3 x4_1).f1) x8_3).f2).length c199_2)) (fun _ hk => hk.2) (.int .i64 ((rd_T46 ((rd_T44 l0_3 x4_1).f1) x8_3).f3))) (fun _ hk => hk.2) (.int .i64 ((rd_T46 ((rd_T44 l0_3 x4_1).f1) x8_3).f4))) (fun _ h_ => h_.1))))) (below_size (by repeat with_reducible first | exact HB.out | apply below_alloc | apply pw_below_drewN | apply below_drew1 | refine below_set ?_ GE170.out | refine below_set ?_ GE171.out | refine below_set ?_ GE178.out | refine below_set ?_ GE180.out | refine below_set ?_ GE187.out | refine below_set ?_ GE200.out))); have n6_ := Aside0.mk (blk_below (g := gb170) (o := .cells #[.int .i64 a0_0, .int .i64 a0_1, .slice A0_2 l0_2.length c0_2, .slice (some ad179) l0_3.length c0_3] 34 (0, 0)) (by (with_reducible repeat (first | refine blk_drewN ?_ _ | refine blk_drew ?_ | refine blk_alloc ?_ _)); refine blk_far ?_ NB170_200.out _; (with_reducible repeat (first | refine blk_drewN ?_ _ | refine blk_drew ?_ | refine blk_alloc ?_ _)); refine blk_far ?_ NB170_200.out _; (with_reducible repeat (first | refine blk_drewN ?_ _ | refine blk_drew ?_ | refine blk_alloc ?_ _)); refine blk_far ?_ NB170_200.out _; (with_reducible repeat (first | refine blk_drewN ?_ _ | refine blk_drew ?_ | refine blk_alloc ?_ _)); refine blk_far ?_ NB170_200.out _; (with_reducible repeat (first | refine blk_drewN ?_ _ | refine blk_drew ?_ | refine blk_alloc ?_ _)); refine blk_far ?_ NB170_200.out _; (with_reducible repeat (first | refine blk_drewN ?_ _ | refine blk_drew ?_ | refine blk_alloc ?_ _)); exact BK170.out) hb); have n7_ := Aside0.mk (blk_below (g := gb171) (o := .cells #[.int .i64 0, .int .i64 0, .slice none 0 0, .slice none 0 0] 34 (0, 0)) (by (with_reducible repeat (first | refine blk_drewN ?_ _ | refine blk_drew ?_ | refine blk_alloc ?_ _)); refine blk_far ?_ NB171_200.out _; (with_reducible repeat (first | refine blk_drewN ?_ _ | refine blk_drew ?_ | refine blk_alloc ?_ _)); refine blk_far ?_ NB171_200.out _; (with_reducible repeat (first | refine blk_drewN ?_ _ | refine blk_drew ?_ | refine blk_alloc ?_ _)); refine blk_far ?_ NB171_200.out _; (with_reducible repeat (first | refine blk_drewN ?_ _ | refine blk_drew ?_ | refine blk_alloc ?_ _)); refine blk_far ?_ NB171_200.out _; (with_reducible repeat (first | refine blk_drewN ?_ _ | refine blk_drew ?_ | refine blk_alloc ?_ _)); refine blk_far ?_ NB171_200.out _; (with_reducible repeat (first | refine blk_drewN ?_ _ | refine blk_drew ?_ | refine blk_alloc ?_ _)); exact BK171.out) hb); have n8_ := Aside0.mk (blk_below (g := gb178) (o := .cells #[.int .i64 a0_0, .int .i64 a0_1, .slice Ao12 y175.length co12, u179003] 34 (0, 0)) (by (with_reducible repeat (first | refine blk_drewN ?_ _ | refine blk_drew ?_ | refine blk_alloc ?_ _)); refine blk_far ?_ NB178_200.out _; (with_reducible repeat (first | refine blk_drewN ?_ _ | refine blk_drew ?_ | refine blk_alloc ?_ _)); refine blk_far ?_ NB178_200.out _; (with_reducible repeat (first | refine blk_drewN ?_ _ | refine blk_drew ?_ | refine blk_alloc ?_ _)); refine blk_far ?_ NB178_200.out _; (with_reducible repeat (first | refine blk_drewN ?_ _ | refine blk_drew ?_ | refine blk_alloc ?_ _)); refine blk_far ?_ NB178_200.out _; (with_reducible repeat (first | refine blk_drewN ?_ _ | refine blk_drew ?_ | refine blk_alloc ?_ _)); refine blk_far ?_ NB178_200.out _; (with_reducible repeat (first | refine blk_drewN ?_ _ | refine blk_drew ?_ | refine blk_alloc ?_ _)); exact BK178.out) hb); have n9_ := Aside0.mk (blk_below (g := gb180) (o := .cells #[.slice A179_0 ((rd_T44 l0_3 x4_1).f0).length c179_0, .slice (some ad199) ((rd_T44 l0_3 x4_1).f1).length c179_1, .int .i64 ((rd_T44 l0_3 x4_1).f2.f0), .int .i64 ((rd_T44 l0_3 x4_1).f2.f1), .slice A179_4 ((rd_T44 l0_3 x4_1).f2.f2).length c179_4] 44 (0, 0)) (by (with_reducible repeat (first | refine blk_drewN ?_ _ | refine blk_drew ?_ | refine blk_alloc ?_ _)); refine blk_far ?_ NB180_200.out _; (with_reducible repeat (first | refine blk_drewN ?_ _ | refine blk_drew ?_ | refine blk_alloc ?_ _)); refine blk_far ?_ NB180_200.out _; (with_reducible repeat (first | refine blk_drewN ?_ _ | refine blk_drew ?_ | refine blk_alloc ?_ _)); refine blk_far ?_ NB180_200.out _; (with_reducible repeat (first | refine blk_drewN ?_ _ | refine blk_drew ?_ | refine blk_alloc ?_ _)); refine blk_far ?_ NB180_200.out _; (with_reducible repeat (first | refine blk_drewN ?_ _ | refine blk_drew ?_ | refine blk_alloc ?_ _)); refine blk_far ?_ NB180_200.out _; (with_reducible repeat (first | refine blk_drewN ?_ _ | refine blk_drew ?_ | refine blk_alloc ?_ _)); exact BK180.out) hb); have n10_ := Aside0.mk (blk_below (g := gb187) (o := .cells #[u188000, u188001, .int .i64 ((rd_T44 l0_3 x4_1).f2.f0), .int .i64 ((rd_T44 l0_3 x4_1).f2.f1), .slice Ao36 y184.length co36] 44 (0, 0)) (by (with_reducible repeat (first | refine blk_drewN ?_ _ | refine blk_drew ?_ | refine blk_alloc ?_ _)); refine blk_far ?_ NB187_200.out _; (with_reducible repeat (first | refine blk_drewN ?_ _ | refine blk_drew ?_ | refine blk_alloc ?_ _)); refine blk_far ?_ NB187_200.out _; (with_reducible repeat (first | refine blk_drewN ?_ _ | refine blk_drew ?_ | refine blk_alloc ?_ _)); refine blk_far ?_ NB187_200.out _; (with_reducible repeat (first | refine blk_drewN ?_ _ | refine blk_drew ?_ | refine blk_alloc ?_ _)); refine blk_far ?_ NB187_200.out _; (with_reducible repeat (first | refine blk_drewN ?_ _ | refine blk_drew ?_ | refine blk_alloc ?_ _)); refine blk_far ?_ NB187_200.out _; (with_reducible repeat (first | refine blk_drewN ?_ _ | refine blk_drew ?_ | refine blk_alloc ?_ _)); exact BK187.out) hb); have n11_ := Aside0.mk (blk_below (g := gb200) (o := .cells #[.int .i64 ((rd_T46 ((rd_T44 l0_3 x4_1).f1) x8_3).f0), .int .i64 ((rd_T46 ((rd_T44 l0_3 x4_1).f1) x8_3).f1), .slice A199_2 ((rd_T46 ((rd_T44 l0_3 x4_1).f1) x8_3).f2).length c199_2, .int .i64 ((rd_T46 ((rd_T44 l0_3 x4_1).f1) x8_3).f3), .int .i64 ((rd_T46 ((rd_T44 l0_3 x4_1).f1) x8_3).f4)] 46 (0, 0)) (by (with_reducible repeat (first | refine blk_drewN ?_ _ | refine blk_drew ?_ | refine blk_alloc ?_ _)); refine blk_put (cs := #[.int .i64 ((rd_T46 ((rd_T44 l0_3 x4_1).f1) x8_3).f0), .int .i64 ((rd_T46 ((rd_T44 l0_3 x4_1).f1) x8_3).f1), .slice A199_2 ((rd_T46 ((rd_T44 l0_3 x4_1).f1) x8_3).f2).length c199_2, .int .i64 ((rd_T46 ((rd_T44 l0_3 x4_1).f1) x8_3).f3), .int .i64 0]) ?_ 4 _ rfl; (with_reducible repeat (first | refine blk_drewN ?_ _ | refine blk_drew ?_ | refine blk_alloc ?_ _)); refine blk_put (cs := #[.int .i64 ((rd_T46 ((rd_T44 l0_3 x4_1).f1) x8_3).f0), .int .i64 ((rd_T46 ((rd_T44 l0_3 x4_1).f1) x8_3).f1), .slice A199_2 ((rd_T46 ((rd_T44 l0_3 x4_1).f1) x8_3).f2).length c199_2, .int .i64 0, .int .i64 0]) ?_ 3 _ rfl; (with_reducible repeat (first | refine blk_drewN ?_ _ | refine blk_drew ?_ | refine blk_alloc ?_ _)); refine blk_put (cs := #[.int .i64 ((rd_T46 ((rd_T44 l0_3 x4_1).f1) x8_3).f0), .int .i64 ((rd_T46 ((rd_T44 l0_3 x4_1).f1) x8_3).f1), .slice none 0 0, .int .i64 0, .int .i64 0]) ?_ 2 _ rfl; (with_reducible repeat (first | refine blk_drewN ?_ _ | refine blk_drew ?_ | refine blk_alloc ?_ _)); refine blk_put (cs := #[.int .i64 ((rd_T46 ((rd_T44 l0_3 x4_1).f1) x8_3).f0), .int .i64 0, .slice none 0 0, .int .i64 0, .int .i64 0]) ?_ 1 _ rfl; (with_reducible repeat (first | refine blk_drewN ?_ _ | refine blk_drew ?_ | refine blk_alloc ?_ _)); refine blk_put (cs := #[.int .i64 0, .int .i64 0, .slice none 0 0, .int .i64 0, .int .i64 0]) ?_ 0 _ rfl; (with_reducible repeat (first | refine blk_drewN ?_ _ | refine blk_drew ?_ | refine blk_alloc ?_ _)); exact BK200.out) hb); have n12_ := Aside0.mk (below_step (by repeat with_reducible first | exact HB.out | apply below_alloc | apply pw_below_drewN | apply below_drew1 | refine below_set ?_ GE170.out | refine below_set ?_ GE171.out | refine below_set ?_ GE178.out | refine below_set ?_ GE180.out | refine below_set ?_ GE187.out | refine below_set ?_ GE200.out) hb); clear HO_179002; clear HO_179003; clear HO_188000; clear HO_188001; clear HO_188004; clear BK170; clear BK171; clear BK178; clear BK180; clear BK187; clear BK200; clear HB; have HO_179002 := n0_; have HO_179003 := n1_; have HO_188000 := n2_; have HO_188001 := n3_; have HO_188004 := n4_; have HO203 := n5_; have BK170 := n6_; have BK171 := n7_; have BK178 := n8_; have BK180 := n9_; have BK187 := n10_; have BK200 := n11_; have HB := n12_; clear n0_ n1_ n2_ n3_ n4_ n5_ n6_ n7_ n8_ n9_ n10_ n11_ n12_; clear hb ho81; have hcz82_0 : w80.cell? ⟨gb200, 0, none⟩ = some (.int .i64 ((rd_T46 ((rd_T44 l0_3 x4_1).f1) x8_3).f0)) := (blk_cell BK200.out 0).trans rfl; have hcz82_1 : w80.cell? ⟨gb200, 1, none⟩ = some (.int .i64 ((rd_T46 ((rd_T44 l0_3 x4_1).f1) x8_3).f1)) := (blk_cell BK200.out 1).trans rfl; have hcz82_2 : w80.cell? ⟨gb200, 2, none⟩ = some (.slice A199_2 ((rd_T46 ((rd_T44 l0_3 x4_1).f1) x8_3).f2).length c199_2) := (blk_cell BK200.out 2).trans rfl; have hcz82_3 : w80.cell? ⟨gb200, 3, none⟩ = some (.int .i64 ((rd_T46 ((rd_T44 l0_3 x4_1).f1) x8_3).f3)) := (blk_cell BK200.out 3).trans rfl; have hcz82_4 : w80.cell? ⟨gb200, 4, none⟩ = some (.int .i64 ((rd_T46 ((rd_T44 l0_3 x4_1).f1) x8_3).f4)) := (blk_cell BK200.out 4).trans rfl; have hfz82_0 := blk_frozen BK200.out 0; have hfz82_1 := blk_frozen BK200.out 1; have hfz82_2 := blk_frozen BK200.out 2; have hfz82_3 := blk_frozen BK200.out 3; have hfz82_4 := blk_frozen BK200.out 4) | ((with_reducible refine gate_builtin (b := .append) (xs := #[.tmp 83, .tmp 85]) rfl ?_); at_builtin; refine Kd.R_append_rows (Kd.int .i64) (w0 := w) w.heap.size rfl (.tmp 83) (.tmp 85) 31 3 (.int .i64 0) 8 rfl Tryd.underlying31 info3 rfl (by decide) (by omega) v202 y201 ((rd_T46 ((rd_T44 l0_3 x4_1).f1) x8_3).f2) _ _ _ (fun k_ => some k_ ≠ (.slice Ao12 y175.length co12 : Value).ownBlock ∧ some k_ ≠ (.slice Ao36 y184.length co36 : Value).ownBlock) (fun _ => False) rfl rfl ?aO ?aR (fun _ _ h => h) (fun _ h => h.elim) ?aF ?aB ?aS ?aL ?_; (case aR => repeat (first | exact (C_below HR199_2.out HB.out) | (with_reducible refine C_alloc ?_ _) | (with_reducible refine C_drewN ?_ _) | (with_reducible refine C_drew ?_))); (case aB => exact (by repeat with_reducible first | exact HB.out | apply below_alloc | apply pw_below_drewN | apply below_drew1 | refine below_set ?_ GE170.out | refine below_set ?_ GE171.out | refine below_set ?_ GE178.out | refine below_set ?_ GE180.out | refine below_set ?_ GE187.out | refine below_set ?_ GE200.out)); (case aF => exact (fun k_ hk => ⟨Kd.fresh' (R_lt (by (with_reducible repeat (first | apply R_alloc | apply R_drewN | apply R_drew)); exact HO_179002.out)) k_ hk, Kd.fresh' (R_lt (by (with_reducible repeat (first | apply R_alloc | apply R_drewN | apply R_drew)); exact HO_188004.out)) k_ hk⟩)); (case aO => exact (by (with_reducible repeat (first | apply R_alloc | apply R_drewN | apply R_drew)); exact R_mono HO203.out (fun _ hk => ⟨hk.1.2, hk.2⟩))); (case aS => exact (below_size (by repeat with_reducible first | exact HB.out | apply below_alloc | apply pw_below_drewN | apply below_drew1 | refine below_set ?_ GE170.out | refine below_set ?_ GE171.out | refine below_set ?_ GE178.out | refine below_set ?_ GE180.out | refine below_set ?_ GE187.out | refine below_set ?_ GE200.out))); (case aL => have := LMc66.out; omega); intro v205 w83 ho hb hg hat; rw [← Ny204.out] at ho; have n0_ := Aside0.mk (Kd.R_after (ok := (fun k_ => some k_ ≠ (.slice Ao36 y184.length co36 : Value).ownBlock)) (by (with_reducible repeat (first | apply R_alloc | apply R_drewN | apply R_drew)); exact HO_179002.out) hg hat); have n1_ := Aside0.mk (Kd.R_after (ok := (fun k_ => some k_ ≠ (.slice Ao12 y175.length co12 : Value).ownBlock ∧ some k_ ≠ (u188000 : Value).ownBlock ∧ some k_ ≠ (u188001 : Value).ownBlock ∧ some k_ ≠ (.slice Ao36 y184.length co36 : Value).ownBlock ∧ k_ ≠ gb180 ∧ k_ ≠ gb187 ∧ k_ ≠ gb200)) (by (with_reducible repeat (first | apply R_alloc | apply R_drewN | apply R_drew)); exact R_mono HO_179003.out (fun _ hk => ⟨⟨hk.1.1.1, ⟨hk.1.1.2.1, ⟨hk.1.1.2.2.1, ⟨hk.1.1.2.2.2.1, ⟨hk.1.1.2.2.2.2.1, ⟨hk.1.1.2.2.2.2.2, hk.1.2⟩⟩⟩⟩⟩⟩, hk.2⟩)) hg hat); have n2_ := Aside0.mk (Kd.S_after (ok := (fun k_ => some k_ ≠ (.slice Ao12 y175.length co12 : Value).ownBlock ∧ some k_ ≠ (.slice Ao36 y184.length co36 : Value).ownBlock)) (by (with_reducible repeat (first | apply S_alloc | apply S_drewN | apply S_drew)); exact HO_188000.out) hg hat); have n3_ := Aside0.mk (Kd.S_after (ok := (fun k_ => some k_ ≠ (.slice Ao12 y175.length co12 : Value).ownBlock ∧ some k_ ≠ (.slice Ao36 y184.length co36 : Value).ownBlock ∧ k_ ≠ gb200)) (by (with_reducible repeat (first | apply S_alloc | apply S_drewN | apply S_drew)); exact S_mono HO_188001.out (fun _ hk => ⟨⟨hk.1.1.1, ⟨hk.1.1.2, hk.1.2⟩⟩, hk.2⟩)) hg hat); have n4_ := Aside0.mk (Kd.R_after (ok := (fun k_ => some k_ ≠ (.slice Ao12 y175.length co12 : Value).ownBlock)) (by (with_reducible repeat (first | apply R_alloc | apply R_drewN | apply R_drew)); exact HO_188004.out) hg hat); have n5_ := Aside0.mk (blk_grown (g := gb170) (o := .cells #[.int .i64 a0_0, .int .i64 a0_1, .slice A0_2 l0_2.length c0_2, .slice (some ad179) l0_3.length c0_3] 34 (0, 0)) (by (with_reducible repeat (first | refine blk_drewN ?_ _ | refine blk_drew ?_ | refine blk_alloc ?_ _)); exact BK170.out) hg (Kd.R_ne HO203.out BK170.out (by decide))); have n6_ := Aside0.mk (blk_grown (g := gb171) (o := .cells #[.int .i64 0, .int .i64 0, .slice none 0 0, .slice none 0 0] 34 (0, 0)) (by (with_reducible repeat (first | refine blk_drewN ?_ _ | refine blk_drew ?_ | refine blk_alloc ?_ _)); exact BK171.out) hg (Kd.R_ne HO203.out BK171.out (by decide))); have n7_ := Aside0.mk (blk_grown (g := gb178) (o := .cells #[.int .i64 a0_0, .int .i64 a0_1, .slice Ao12 y175.length co12, u179003] 34 (0, 0)) (by (with_reducible repeat (first | refine blk_drewN ?_ _ | refine blk_drew ?_ | refine blk_alloc ?_ _)); exact BK178.out) hg (Kd.R_ne HO203.out BK178.out (by decide))); have n8_ := Aside0.mk (blk_grown (g := gb180) (o := .cells #[.slice A179_0 ((rd_T44 l0_3 x4_1).f0).length c179_0, .slice (some ad199) ((rd_T44 l0_3 x4_1).f1).length c179_1, .int .i64 ((rd_T44 l0_3 x4_1).f2.f0), .int .i64 ((rd_T44 l0_3 x4_1).f2.f1), .slice A179_4 ((rd_T44 l0_3 x4_1).f2.f2).length c179_4] 44 (0, 0)) (by (with_reducible repeat (first | refine blk_drewN ?_ _ | refine blk_drew ?_ | refine blk_alloc ?_ _)); exact BK180.out) hg (Kd.R_ne HO203.out BK180.out (by decide))); have n9_ := Aside0.mk (blk_grown (g := gb187) (o := .cells #[u188000, u188001, .int .i64 ((rd_T44 l0_3 x4_1).f2.f0), .int .i64 ((rd_T44 l0_3 x4_1).f2.f1), .slice Ao36 y184.length co36] 44 (0, 0)) (by (with_reducible repeat (first | refine blk_drewN ?_ _ | refine blk_drew ?_ | refine blk_alloc ?_ _)); exact BK187.out) hg (Kd.R_ne HO203.out BK187.out (by decide))); have n10_ := Aside0.mk (blk_grown (g := gb200) (o := .cells #[.int .i64 ((rd_T46 ((rd_T44 l0_3 x4_1).f1) x8_3).f0), .int .i64 ((rd_T46 ((rd_T44 l0_3 x4_1).f1) x8_3).f1), .slice A199_2 ((rd_T46 ((rd_T44 l0_3 x4_1).f1) x8_3).f2).length c199_2, .int .i64 ((rd_T46 ((rd_T44 l0_3 x4_1).f1) x8_3).f3), .int .i64 ((rd_T46 ((rd_T44 l0_3 x4_1).f1) x8_3).f4)] 46 (0, 0)) (by (with_reducible repeat (first | refine blk_drewN ?_ _ | refine blk_drew ?_ | refine blk_alloc ?_ _)); exact BK200.out) hg (Kd.R_ne HO203.out BK200.out (by decide))); have n11_ := Aside0.mk (hb); have n12_ := Aside0.mk (ho); clear HO_179002; clear HO_179003; clear HO_188000; clear HO_188001; clear HO_188004; clear BK170; clear BK171; clear BK178; clear BK180; clear BK187; clear BK200; clear HB; clear HO203; have HO_179002 := n0_; have HO_179003 := n1_; have HO_188000 := n2_; have HO_188001 := n3_; have HO_188004 := n4_; have BK170 := n5_; have BK171 := n6_; have BK178 := n7_; have BK180 := n8_; have BK187 := n9_; have BK200 := n10_; have HB := n11_; have HO206 := n12_; clear n0_ n1_ n2_ n3_ n4_ n5_ n6_ n7_ n8_ n9_ n10_ n11_ n12_; clear ho hb hg hat; obtain ⟨Ao84, co84, eo84⟩ := Kd.R_slice HO206.out; subst eo84; have hcz85_0 : w83.cell? ⟨gb200, 0, none⟩ = some (.int .i64 ((rd_T46 ((rd_T44 l0_3 x4_1).f1) x8_3).f0)) := (blk_cell BK200.out 0).trans rfl; have hcz85_1 : w83.cell? ⟨gb200, 1, none⟩ = some (.int .i64 ((rd_T46 ((rd_T44 l0_3 x4_1).f1) x8_3).f1)) := (blk_cell BK200.out 1).trans rfl; have hcz85_2 : w83.cell? ⟨gb200, 2, none⟩ = some (.slice A199_2 ((rd_T46 ((rd_T44 l0_3 x4_1).f1) x8_3).f2).length c199_2) := (blk_cell BK200.out 2).trans rfl; have hcz85_3 : w83.cell? ⟨gb200, 3, none⟩ = some (.int .i64 ((rd_T46 ((rd_T44 l0_3 x4_1).f1) x8_3).f3)) := (blk_cell BK200.out 3).trans rfl; have hcz85_4 : w83.cell? ⟨gb200, 4, none⟩ = some (.int .i64 ((rd_T46 ((rd_T44 l0_3 x4_1).f1) x8_3).f4)) := (blk_cell BK200.out 4).trans rfl; have hfz85_0 := blk_frozen BK200.out 0; have hfz85_1 := blk_frozen BK200.out 1; have hfz85_2 := blk_frozen BK200.out 2; have hfz85_3 := blk_frozen BK200.out 3; have hfz85_4 := blk_frozen BK200.out 4) | ((with_reducible refine gate_store (t := 31) (p := 87) rfl ?_); refine store_event (t := 31) (p := 87) (v := ?vo_w86) (w1 := (w83.setCell ⟨gb200, 2, none⟩ (.slice Ao84 y204.length co84))) ?hg ?ho ?hn ?hr ?_; (case ho => rfl); (case hg => rfl); (case hn => rfl); (case hr => first | (go_simp; done) | (go_simp; rfl)); intro w86 hw; have n0_ : Aside0 (Kd.R (Kd.int .i64) 3 w86 w.heap.size (fun k_ => some k_ ≠ (.slice Ao36 y184.length co36 : Value).ownBlock ∧ some k_ ≠ (.slice Ao84 y204.length co84 : Value).ownBlock) (.slice Ao12 y175.length co12) y175) := ⟨(by rw [hw]; exact (by (with_reducible repeat (first | apply R_alloc | apply R_drewN | apply R_drew)); exact R_mono (Kd.R_far (p := ⟨gb200, 2, none⟩) (Kd.R_types HO_179002.out BK200.out (by decide)) (fun _ hk => hk.2) (.slice Ao84 y204.length co84)) (fun _ hk => ⟨hk.1.1, hk.1.2⟩)))⟩; have n1_ : Aside0 (Kd.R k44 44 w86 w.heap.size (fun k_ => some k_ ≠ (.slice Ao12 y175.length co12 : Value).ownBlock ∧ some k_ ≠ (u188000 : Value).ownBlock ∧ some k_ ≠ (u188001 : Value).ownBlock ∧ some k_ ≠ (.slice Ao36 y184.length co36 : Value).ownBlock ∧ some k_ ≠ (.slice Ao84 y204.length co84 : Value).ownBlock ∧ k_ ≠ gb180 ∧ k_ ≠ gb187 ∧ k_ ≠ gb200) u179003 x179003_1) := ⟨(by rw [hw]; exact (by (with_reducible repeat (first | apply R_alloc | apply R_drewN | apply R_drew)); exact R_mono (Kd.R_far (p := ⟨gb200, 2, none⟩) (R_mono HO_179003.out (fun k_ hk => (⟨hk, hk.1.2.2.2.2.2.2⟩ : _ ∧ k_ ≠ gb200))) (fun _ hk => hk.2) (.slice Ao84 y204.length co84)) (fun _ hk => ⟨hk.1.1.1, ⟨hk.1.1.2.1, ⟨hk.1.1.2.2.1, ⟨hk.1.1.2.2.2.1, ⟨hk.1.2, ⟨hk.1.1.2.2.2.2.1, ⟨hk.1.1.2.2.2.2.2.1, hk.1.1.2.2.2.2.2.2⟩⟩⟩⟩⟩⟩⟩)))⟩; have n2_ : Aside0 (Kd.S k48 48 w86 w.heap.size (fun k_ => some k_ ≠ (.slice Ao12 y175.length co12 : Value).ownBlock ∧ some k_ ≠ (.slice Ao36 y184.length co36 : Value).ownBlock ∧ some k_ ≠ (.slice Ao84 y204.length co84 : Value).ownBlock) u188000 x188000_2) := ⟨(by rw [hw]; exact (by (with_reducible repeat (first | apply S_alloc | apply S_drewN | apply S_drew)); exact S_mono (Kd.S_far (p := ⟨gb200, 2, none⟩) (Kd.S_types HO_188000.out BK200.out (by decide)) (fun _ hk => hk.2) (.slice Ao84 y204.length co84)) (fun _ hk => ⟨hk.1.1.1, ⟨hk.1.1.2, hk.1.2⟩⟩)))⟩; have n3_ : Aside0 (Kd.S k46 46 w86 w.heap.size (fun k_ => some k_ ≠ (.slice Ao12 y175.length co12 : Value).ownBlock ∧ some k_ ≠ (.slice Ao36 y184.length co36 : Value).ownBlock ∧ some k_ ≠ (.slice Ao84 y204.length co84 : Value).ownBlock ∧ k_ ≠ gb200) u188001 x188001_3) := ⟨(by rw [hw]; exact (by (with_reducible repeat (first | apply S_alloc | apply S_drewN | apply S_drew)); exact S_mono (Kd.S_far (p := ⟨gb200, 2, none⟩) (S_mono HO_188001.out (fun k_ hk => (⟨hk, hk.1.2.2⟩ : _ ∧ k_ ≠ gb200))) (fun _ hk => hk.2) (.slice Ao84 y204.length co84)) (fun _ hk => ⟨hk.1.1.1, ⟨hk.1.1.2.1, ⟨hk.1.2, hk.1.1.2.2⟩⟩⟩)))⟩; have n4_ : Aside0 (Kd.R (Kd.int .i64) 3 w86 w.heap.size (fun k_ => some k_ ≠ (.slice Ao12 y175.length co12 : Value).ownBlock ∧ some k_ ≠ (.slice Ao84 y204.length co84 : Value).ownBlock) (.slice Ao36 y184.length co36) y184) := ⟨(by rw [hw]; exact (by (with_reducible repeat (first | apply R_alloc | apply R_drewN | apply R_drew)); exact R_mono (Kd.R_far (p := ⟨gb200, 2, none⟩) (Kd.R_types HO_188004.out BK200.out (by decide)) (fun _ hk => hk.2) (.slice Ao84 y204.length co84)) (fun _ hk => ⟨hk.1.1, hk.1.2⟩)))⟩; have n5_ : Aside0 (Kd.R (Kd.int .i64) 3 w86 w.heap.size (fun k_ => some k_ ≠ (.slice Ao12 y175.length co12 : Value).ownBlock ∧ some k_ ≠ (.slice Ao36 y184.length co36 : Value).ownBlock) (.slice Ao84 y204.length co84) y204) := ⟨(by rw [hw]; exact (by (with_reducible repeat (first | apply R_alloc | apply R_drewN | apply R_drew)); exact R_mono (Kd.R_far (p := ⟨gb200, 2, none⟩) (Kd.R_types HO206.out BK200.out (by decide)) (fun _ hk => hk.2) (.slice Ao84 y204.length co84)) (fun _ hk => ⟨hk.1.1, hk.1.2⟩)))⟩; have n6_ : Aside0 (w86.heap[gb170]? = some (.cells #[.int .i64 a0_0, .int .i64 a0_1, .slice A0_2 l0_2.length c0_2, .slice (some ad179) l0_3.length c0_3] 34 (0, 0))) := ⟨(by rw [hw]; exact (by (with_reducible repeat (first | refine blk_drewN ?_ _ | refine blk_drew ?_ | refine blk_alloc ?_ _)); refine blk_far ?_ NB170_200.out _; (with_reducible repeat (first | refine blk_drewN ?_ _ | refine blk_drew ?_ | refine blk_alloc ?_ _)); exact BK170.out))⟩; have n7_ : Aside0 (w86.heap[gb171]? = some (.cells #[.int .i64 0, .int .i64 0, .slice none 0 0, .slice none 0 0] 34 (0, 0))) := ⟨(by rw [hw]; exact (by (with_reducible repeat (first | refine blk_drewN ?_ _ | refine blk_drew ?_ | refine blk_alloc ?_ _)); refine blk_far ?_ NB171_200.out _; (with_reducible repeat (first | refine blk_drewN ?_ _ | refine blk_drew ?_ | refine blk_alloc ?_ _)); exact BK171.out))⟩; have n8_ : Aside0 (w86.heap[gb178]? = some (.cells #[.int .i64 a0_0, .int .i64 a0_1, .slice Ao12 y175.length co12, u179003] 34 (0, 0))) := ⟨(by rw [hw]; exact (by (with_reducible repeat (first | refine blk_drewN ?_ _ | refine blk_drew ?_ | refine blk_alloc ?_ _)); refine blk_far ?_ NB178_200.out _; (with_reducible repeat (first | refine blk_drewN ?_ _ | refine blk_drew ?_ | refine blk_alloc ?_ _)); exact BK178.out))⟩; have n9_ : Aside0 (w86.heap[gb180]? = some (.cells #[.slice A179_0 ((rd_T44 l0_3 x4_1).f0).length c179_0, .slice (some ad199) ((rd_T44 l0_3 x4_1).f1).length c179_1, .int .i64 ((rd_T44 l0_3 x4_1).f2.f0), .int .i64 ((rd_T44 l0_3 x4_1).f2.f1), .slice A179_4 ((rd_T44 l0_3 x4_1).f2.f2).length c179_4] 44 (0, 0))) := ⟨(by rw [hw]; exact (by (with_reducible repeat (first | refine blk_drewN ?_ _ | refine blk_drew ?_ | refine blk_alloc ?_ _)); refine blk_far ?_ NB180_200.out _; (with_reducible repeat (first | refine blk_drewN ?_ _ | refine blk_drew ?_ | refine blk_alloc ?_ _)); exact BK180.out))⟩; have n10_ : Aside0 (w86.heap[gb187]? = some (.cells #[u188000, u188001, .int .i64 ((rd_T44 l0_3 x4_1).f2.f0), .int .i64 ((rd_T44 l0_3 x4_1).f2.f1), .slice Ao36 y184.length co36] 44 (0, 0))) := ⟨(by rw [hw]; exact (by (with_reducible repeat (first | refine blk_drewN ?_ _ | refine blk_drew ?_ | refine blk_alloc ?_ _)); refine blk_far ?_ NB187_200.out _; (with_reducible repeat (first | refine blk_drewN ?_ _ | refine blk_drew ?_ | refine blk_alloc ?_ _)); exact BK187.out))⟩; have n11_ : Aside0 (w86.heap[gb200]? = some (.cells #[.int .i64 ((rd_T46 ((rd_T44 l0_3 x4_1).f1) x8_3).f0), .int .i64 ((rd_T46 ((rd_T44 l0_3 x4_1).f1) x8_3).f1), .slice Ao84 y204.length co84, .int .i64 ((rd_T46 ((rd_T44 l0_3 x4_1).f1) x8_3).f3), .int .i64 ((rd_T46 ((rd_T44 l0_3 x4_1).f1) x8_3).f4)] 46 (0, 0))) := ⟨(by rw [hw]; exact (by (with_reducible repeat (first | refine blk_drewN ?_ _ | refine blk_drew ?_ | refine blk_alloc ?_ _)); refine blk_put (cs := #[.int .i64 ((rd_T46 ((rd_T44 l0_3 x4_1).f1) x8_3).f0), .int .i64 ((rd_T46 ((rd_T44 l0_3 x4_1).f1) x8_3).f1), .slice A199_2 ((rd_T46 ((rd_T44 l0_3 x4_1).f1) x8_3).f2).length c199_2, .int .i64 ((rd_T46 ((rd_T44 l0_3 x4_1).f1) x8_3).f3), .int .i64 ((rd_T46 ((rd_T44 l0_3 x4_1).f1) x8_3).f4)]) ?_ 2 _ rfl; (with_reducible repeat (first | refine blk_drewN ?_ _ | refine blk_drew ?_ | refine blk_alloc ?_ _)); exact BK200.out))⟩; have n12_ : Aside0 (Below w.heap.size w w86) := ⟨(by rw [hw]; exact (by repeat with_reducible first | exact HB.out | apply below_alloc | apply pw_below_drewN | apply below_drew1 | refine below_set ?_ GE170.out | refine below_set ?_ GE171.out | refine below_set ?_ GE178.out | refine below_set ?_ GE180.out | refine below_set ?_ GE187.out | refine below_set ?_ GE200.out))⟩; clear hw; clear HO_179002; clear HO_179003; clear HO_188000; clear HO_188001; clear HO_188004; clear HO206; clear BK170; clear BK171; clear BK178; clear BK180; clear BK187; clear BK200; clear HB; have HO_179002 := n0_; have HO_179003 := n1_; have HO_188000 := n2_; have HO_188001 := n3_; have HO_188004 := n4_; have HO206 := n5_; have BK170 := n6_; have BK171 := n7_; have BK178 := n8_; have BK180 := n9_; have BK187 := n10_; have BK200 := n11_; have HB := n12_; clear n0_ n1_ n2_ n3_ n4_ n5_ n6_ n7_ n8_ n9_ n10_ n11_ n12_; have hnb87 := NB187_170.out; have hnc87 := NB170_187.out; have hnb88 := NB187_171.out; have hnc88 := NB171_187.out; have hnb89 := NB187_178.out; have hnc89 := NB178_187.out; have hcz90_0 : w86.cell? ⟨gb187, 0, none⟩ = some (u188000) := (blk_cell BK187.out 0).trans rfl; have hcz90_1 : w86.cell? ⟨gb187, 1, none⟩ = some (u188001) := (blk_cell BK187.out 1).trans rfl; have hcz90_2 : w86.cell? ⟨gb187, 2, none⟩ = some (.int .i64 ((rd_T44 l0_3 x4_1).f2.f0)) := (blk_cell BK187.out 2).trans rfl; have hcz90_3 : w86.cell? ⟨gb187, 3, none⟩ = some (.int .i64 ((rd_T44 l0_3 x4_1).f2.f1)) := (blk_cell BK187.out 3).trans rfl; have hcz90_4 : w86.cell? ⟨gb187, 4, none⟩ = some (.slice Ao36 y184.length co36) := (blk_cell BK187.out 4).trans rfl; have hfz90_0 := blk_frozen BK187.out 0; have hfz90_1 := blk_frozen BK187.out 1; have hfz90_2 := blk_frozen BK187.out 2; have hfz90_3 := blk_frozen BK187.out 3; have hfz90_4 := blk_frozen BK187.out 4; have hcz91_0 : w86.cell? ⟨gb200, 0, none⟩ = some (.int .i64 ((rd_T46 ((rd_T44 l0_3 x4_1).f1) x8_3).f0)) := (blk_cell BK200.out 0).trans rfl; have hcz91_1 : w86.cell? ⟨gb200, 1, none⟩ = some (.int .i64 ((rd_T46 ((rd_T44 l0_3 x4_1).f1) x8_3).f1)) := (blk_cell BK200.out 1).trans rfl; have hcz91_2 : w86.cell? ⟨gb200, 2, none⟩ = some (.slice Ao84 y204.length co84) := (blk_cell BK200.out 2).trans rfl; have hcz91_3 : w86.cell? ⟨gb200, 3, none⟩ = some (.int .i64 ((rd_T46 ((rd_T44 l0_3 x4_1).f1) x8_3).f3)) := (blk_cell BK200.out 3).trans rfl; have hcz91_4 : w86.cell? ⟨gb200, 4, none⟩ = some (.int .i64 ((rd_T46 ((rd_T44 l0_3 x4_1).f1) x8_3).f4)) := (blk_cell BK200.out 4).trans rfl; have hfz91_0 := blk_frozen BK200.out 0; have hfz91_1 := blk_frozen BK200.out 1; have hfz91_2 := blk_frozen BK200.out 2; have hfz91_3 := blk_frozen BK200.out 3; have hfz91_4 := blk_frozen BK200.out 4) | ((with_reducible refine gate_builtin (b := .append) (xs := #[.tmp 89, .tmp 91]) rfl ?_); at_builtin; refine Kd.S_append k46 (w0 := w) w.heap.size rfl (.tmp 89) (.tmp 91) 40 46 (.agg #[(.int .i64 0), (.int .i64 0), (.slice none 0 0), (.int .i64 0), (.int .i64 0)]) 56 rfl Tryd.underlying40 info46 rfl (by decide) (by omega) u188001 x188001_3 (⟨(rd_T46 ((rd_T44 l0_3 x4_1).f1) x8_3).f0, (rd_T46 ((rd_T44 l0_3 x4_1).f1) x8_3).f1, y204, (rd_T46 ((rd_T44 l0_3 x4_1).f1) x8_3).f3, (rd_T46 ((rd_T44 l0_3 x4_1).f1) x8_3).f4⟩ : S46) [.int .i64 ((rd_T46 ((rd_T44 l0_3 x4_1).f1) x8_3).f0), .int .i64 ((rd_T46 ((rd_T44 l0_3 x4_1).f1) x8_3).f1), .slice Ao84 y204.length co84, .int .i64 ((rd_T46 ((rd_T44 l0_3 x4_1).f1) x8_3).f3), .int .i64 ((rd_T46 ((rd_T44 l0_3 x4_1).f1) x8_3).f4)] (fun k_ => some k_ ≠ (.slice Ao12 y175.length co12 : Value).ownBlock ∧ some k_ ≠ (.slice Ao36 y184.length co36 : Value).ownBlock ∧ k_ ≠ gb200) (fun k_ => some k_ = (.slice Ao84 y204.length co84 : Value).ownBlock) rfl rfl ?aP (fun k_ hk_ => ((R_mono (ok' := fun k_ => ((fun k_ => some k_ ≠ (.slice Ao12 y175.length co12 : Value).ownBlock ∧ some k_ ≠ (.slice Ao36 y184.length co36 : Value).ownBlock ∧ k_ ≠ gb200)) k_ ∧ some k_ ≠ (u188001 : Value).ownBlock) (Kd.R_types (Kd.R_apart' (HO206.out) (Kd.S_typed HO_188001.out) (by decide)) BK200.out (by decide)) (fun k_ hk => ⟨⟨hk.1.1.1, ⟨hk.1.1.2, hk.2⟩⟩, hk.1.2⟩))).1 k_ hk_.symm) ?aF ?aO ?aB ?aS ?aL ?_; (case aP => exact k46_mkM _ _ _ (⟨(rd_T46 ((rd_T44 l0_3 x4_1).f1) x8_3).f0, (rd_T46 ((rd_T44 l0_3 x4_1).f1) x8_3).f1, y204, (rd_T46 ((rd_T44 l0_3 x4_1).f1) x8_3).f3, (rd_T46 ((rd_T44 l0_3 x4_1).f1) x8_3).f4⟩ : S46) (R_mono (Kd.R_tight rfl (R_mono (ok' := fun k_ => ((fun k_ => some k_ ≠ (.slice Ao12 y175.length co12 : Value).ownBlock ∧ some k_ ≠ (.slice Ao36 y184.length co36 : Value).ownBlock ∧ k_ ≠ gb200)) k_ ∧ some k_ ≠ (u188001 : Value).ownBlock) (Kd.R_types (Kd.R_apart' (HO206.out) (Kd.S_typed HO_188001.out) (by decide)) BK200.out (by decide)) (fun k_ hk => ⟨⟨hk.1.1.1, ⟨hk.1.1.2, hk.2⟩⟩, hk.1.2⟩))) (fun _ h_ => h_))); (case aB => exact (by repeat with_reducible first | exact HB.out | apply below_alloc | apply pw_below_drewN | apply below_drew1 | refine below_set ?_ GE170.out | refine below_set ?_ GE171.out | refine below_set ?_ GE178.out | refine below_set ?_ GE180.out | refine below_set ?_ GE187.out | refine below_set ?_ GE200.out)); (case aF => exact (fun k_ hk => ⟨Kd.fresh' (R_lt (by (with_reducible repeat (first | apply R_alloc | apply R_drewN | apply R_drew)); exact HO_179002.out)) k_ hk, Kd.fresh' (R_lt (by (with_reducible repeat (first | apply R_alloc | apply R_drewN | apply R_drew)); exact HO_188004.out)) k_ hk, Kd.freshB (g := gb200) (o := .cells #[.int .i64 ((rd_T46 ((rd_T44 l0_3 x4_1).f1) x8_3).f0), .int .i64 ((rd_T46 ((rd_T44 l0_3 x4_1).f1) x8_3).f1), .slice Ao84 y204.length co84, .int .i64 ((rd_T46 ((rd_T44 l0_3 x4_1).f1) x8_3).f3), .int .i64 ((rd_T46 ((rd_T44 l0_3 x4_1).f1) x8_3).f4)] 46 (0, 0)) (by (with_reducible repeat (first | refine blk_drewN ?_ _ | refine blk_drew ?_ | refine blk_alloc ?_ _)); exact BK200.out) k_ hk⟩)); (case aO => exact (by (with_reducible repeat (first | apply S_alloc | apply S_drewN | apply S_drew)); exact S_mono HO_188001.out (fun k_ hk => ⟨⟨hk.1, ⟨hk.2.1, hk.2.2.2⟩⟩, fun e_ => hk.2.2.1 e_⟩))); (case aS => exact (below_size (by repeat with_reducible first | exact HB.out | apply below_alloc | apply pw_below_drewN | apply below_drew1 | refine below_set ?_ GE170.out | refine below_set ?_ GE171.out | refine below_set ?_ GE178.out | refine below_set ?_ GE180.out | refine below_set ?_ GE187.out | refine below_set ?_ GE200.out))); (case aL => have := LMc67.out; omega); intro v208 w92 ho hb hg hat; rw [← Ny207.out] at ho; have n0_ := Aside0.mk (Kd.R_over' (by (with_reducible repeat (first | apply R_alloc | apply R_drewN | apply R_drew)); exact HO_179002.out) (Kd.S_typed (by (with_reducible repeat (first | apply S_alloc | apply S_drewN | apply S_drew)); exact HO_188001.out)) (by decide) hg); have n1_ := Aside0.mk (Kd.R_after (ok := (fun k_ => some k_ ≠ (.slice Ao12 y175.length co12 : Value).ownBlock ∧ some k_ ≠ (u188000 : Value).ownBlock ∧ some k_ ≠ (.slice Ao36 y184.length co36 : Value).ownBlock ∧ some k_ ≠ (.slice Ao84 y204.length co84 : Value).ownBlock ∧ k_ ≠ gb180 ∧ k_ ≠ gb187 ∧ k_ ≠ gb200)) (by (with_reducible repeat (first | apply R_alloc | apply R_drewN | apply R_drew)); exact R_mono HO_179003.out (fun _ hk => ⟨⟨hk.1, ⟨hk.2.1, ⟨hk.2.2.2.1, ⟨hk.2.2.2.2.1, ⟨hk.2.2.2.2.2.1, ⟨hk.2.2.2.2.2.2.1, hk.2.2.2.2.2.2.2⟩⟩⟩⟩⟩⟩, hk.2.2.1⟩)) hg hat); have n2_ := Aside0.mk (Kd.S_over' (by (with_reducible repeat (first | apply S_alloc | apply S_drewN | apply S_drew)); exact HO_188000.out) (Kd.S_typed (by (with_reducible repeat (first | apply S_alloc | apply S_drewN | apply S_drew)); exact HO_188001.out)) (by decide) hg); have n3_ := Aside0.mk (Kd.R_over' (by (with_reducible repeat (first | apply R_alloc | apply R_drewN | apply R_drew)); exact HO_188004.out) (Kd.S_typed (by (with_reducible repeat (first | apply S_alloc | apply S_drewN | apply S_drew)); exact HO_188001.out)) (by decide) hg); have n4_ := Aside0.mk (blk_grown (g := gb170) (o := .cells #[.int .i64 a0_0, .int .i64 a0_1, .slice A0_2 l0_2.length c0_2, .slice (some ad179) l0_3.length c0_3] 34 (0, 0)) (by (with_reducible repeat (first | refine blk_drewN ?_ _ | refine blk_drew ?_ | refine blk_alloc ?_ _)); exact BK170.out) hg (Kd.S_ne HO_188001.out BK170.out (by decide))); have n5_ := Aside0.mk (blk_grown (g := gb171) (o := .cells #[.int .i64 0, .int .i64 0, .slice none 0 0, .slice none 0 0] 34 (0, 0)) (by (with_reducible repeat (first | refine blk_drewN ?_ _ | refine blk_drew ?_ | refine blk_alloc ?_ _)); exact BK171.out) hg (Kd.S_ne HO_188001.out BK171.out (by decide))); have n6_ := Aside0.mk (blk_grown (g := gb178) (o := .cells #[.int .i64 a0_0, .int .i64 a0_1, .slice Ao12 y175.length co12, u179003] 34 (0, 0)) (by (with_reducible repeat (first | refine blk_drewN ?_ _ | refine blk_drew ?_ | refine blk_alloc ?_ _)); exact BK178.out) hg (Kd.S_ne HO_188001.out BK178.out (by decide))); have n7_ := Aside0.mk (blk_grown (g := gb180) (o := .cells #[.slice A179_0 ((rd_T44 l0_3 x4_1).f0).length c179_0, .slice (some ad199) ((rd_T44 l0_3 x4_1).f1).length c179_1, .int .i64 ((rd_T44 l0_3 x4_1).f2.f0), .int .i64 ((rd_T44 l0_3 x4_1).f2.f1), .slice A179_4 ((rd_T44 l0_3 x4_1).f2.f2).length c179_4] 44 (0, 0)) (by (with_reducible repeat (first | refine blk_drewN ?_ _ | refine blk_drew ?_ | refine blk_alloc ?_ _)); exact BK180.out) hg (Kd.S_ne HO_188001.out BK180.out (by decide))); have n8_ := Aside0.mk (blk_grown (g := gb187) (o := .cells #[u188000, u188001, .int .i64 ((rd_T44 l0_3 x4_1).f2.f0), .int .i64 ((rd_T44 l0_3 x4_1).f2.f1), .slice Ao36 y184.length co36] 44 (0, 0)) (by (with_reducible repeat (first | refine blk_drewN ?_ _ | refine blk_drew ?_ | refine blk_alloc ?_ _)); exact BK187.out) hg (Kd.S_ne HO_188001.out BK187.out (by decide))); have n9_ := Aside0.mk (blk_grown (g := gb200) (o := .cells #[.int .i64 ((rd_T46 ((rd_T44 l0_3 x4_1).f1) x8_3).f0), .int .i64 ((rd_T46 ((rd_T44 l0_3 x4_1).f1) x8_3).f1), .slice Ao84 y204.length co84, .int .i64 ((rd_T46 ((rd_T44 l0_3 x4_1).f1) x8_3).f3), .int .i64 ((rd_T46 ((rd_T44 l0_3 x4_1).f1) x8_3).f4)] 46 (0, 0)) (by (with_reducible repeat (first | refine blk_drewN ?_ _ | refine blk_drew ?_ | refine blk_alloc ?_ _)); exact BK200.out) hg (Kd.S_away HO_188001.out (fun _ hk => hk.2.2.2))); have n10_ := Aside0.mk (hb); have n11_ := Aside0.mk (ho); clear HO_179002; clear HO_179003; clear HO_188000; clear HO_188004; clear BK170; clear BK171; clear BK178; clear BK180; clear BK187; clear BK200; clear HB; clear HO_188001; clear HO206; have HO_179002 := n0_; have HO_179003 := n1_; have HO_188000 := n2_; have HO_188004 := n3_; have BK170 := n4_; have BK171 := n5_; have BK178 := n6_; have BK180 := n7_; have BK187 := n8_; have BK200 := n9_; have HB := n10_; have HO209 := n11_; clear n0_ n1_ n2_ n3_ n4_ n5_ n6_ n7_ n8_ n9_ n10_ n11_; clear ho hb hg hat; obtain ⟨Ao93, co93, eo93⟩ := Kd.S_slice HO209.out; subst eo93; have hcz94_0 : w92.cell? ⟨gb187, 0, none⟩ = some (u188000) := (blk_cell BK187.out 0).trans rfl; have hcz94_1 : w92.cell? ⟨gb187, 1, none⟩ = some (u188001) := (blk_cell BK187.out 1).trans rfl; have hcz94_2 : w92.cell? ⟨gb187, 2, none⟩ = some (.int .i64 ((rd_T44 l0_3 x4_1).f2.f0)) := (blk_cell BK187.out 2).trans rfl; have hcz94_3 : w92.cell? ⟨gb187, 3, none⟩ = some (.int .i64 ((rd_T44 l0_3 x4_1).f2.f1)) := (blk_cell BK187.out 3).trans rfl; have hcz94_4 : w92.cell? ⟨gb187, 4, none⟩ = some (.slice Ao36 y184.length co36) := (blk_cell BK187.out 4).trans rfl; have hfz94_0 := blk_frozen BK187.out 0; have hfz94_1 := blk_frozen BK187.out 1; have hfz94_2 := blk_frozen BK187.out 2; have hfz94_3 := blk_frozen BK187.out 3; have hfz94_4 := blk_frozen BK187.out 4))
      go_roundg k3
      case measure => have := HK1.out; have := HK2.out; have := HK3.out; omega
      case rel => exact ⟨(wrap64 (x8_3 + 1)), (y207), (.slice Ao93 y207.length co93), (by first | rfl | (simp; done) | (simp [*]; done)), H', ⟨by have := HK1.out; have := HK2.out; have := HK3.out; omega⟩, ⟨by (with_reducible repeat (first | apply R_alloc | apply R_drewN | apply R_drew)); exact R_mono (Kd.R_far (p := ⟨gb187, 1, none⟩) (Kd.R_types HO_179002.out BK187.out (by decide)) (fun _ hk => hk.2) (.slice Ao93 y207.length co93)) (fun _ hk => hk.1.1)⟩, ⟨by (with_reducible repeat (first | apply R_alloc | apply R_drewN | apply R_drew)); exact R_mono (Kd.R_far (p := ⟨gb187, 1, none⟩) (R_mono HO_179003.out (fun k_ hk => (⟨hk, hk.1.2.2.2.2.2.1⟩ : _ ∧ k_ ≠ gb187))) (fun _ hk => hk.2) (.slice Ao93 y207.length co93)) (fun _ hk => ⟨hk.1.1.1, ⟨hk.1.1.2.1, ⟨hk.1.2, ⟨hk.1.1.2.2.1, ⟨hk.1.1.2.2.2.2.1, hk.1.1.2.2.2.2.2.1⟩⟩⟩⟩⟩)⟩, ⟨by (with_reducible repeat (first | apply S_alloc | apply S_drewN | apply S_drew)); exact S_mono (Kd.S_far (p := ⟨gb187, 1, none⟩) (Kd.S_types HO_188000.out BK187.out (by decide)) (fun _ hk => hk.2) (.slice Ao93 y207.length co93)) (fun _ hk => ⟨hk.1.1, hk.1.2.1⟩)⟩, ⟨by (with_reducible repeat (first | apply S_alloc | apply S_drewN | apply S_drew)); exact S_mono (Kd.S_far (p := ⟨gb187, 1, none⟩) (Kd.S_types HO209.out BK187.out (by decide)) (fun _ hk => hk.2) (.slice Ao93 y207.length co93)) (fun _ hk => ⟨hk.1.1, hk.1.2.1⟩)⟩, ⟨by (with_reducible repeat (first | apply R_alloc | apply R_drewN | apply R_drew)); exact R_mono (Kd.R_far (p := ⟨gb187, 1, none⟩) (Kd.R_types HO_188004.out BK187.out (by decide)) (fun _ hk => hk.2) (.slice Ao93 y207.length co93)) (fun _ hk => hk.1.1)⟩, ⟨by (with_reducible repeat (first | refine blk_drewN ?_ _ | refine blk_drew ?_ | refine blk_alloc ?_ _)); refine blk_far ?_ NB170_187.out _; (with_reducible repeat (first | refine blk_drewN ?_ _ | refine blk_drew ?_ | refine blk_alloc ?_ _)); exact BK170.out⟩, ⟨by (with_reducible repeat (first | refine blk_drewN ?_ _ | refine blk_drew ?_ | refine blk_alloc ?_ _)); refine blk_far ?_ NB171_187.out _; (with_reducible repeat (first | refine blk_drewN ?_ _ | refine blk_drew ?_ | refine blk_alloc ?_ _)); exact BK171.out⟩, ⟨by (with_reducible repeat (first | refine blk_drewN ?_ _ | refine blk_drew ?_ | refine blk_alloc ?_ _)); refine blk_far ?_ NB178_187.out _; (with_reducible repeat (first | refine blk_drewN ?_ _ | refine blk_drew ?_ | refine blk_alloc ?_ _)); exact BK178.out⟩, ⟨by (with_reducible repeat (first | refine blk_drewN ?_ _ | refine blk_drew ?_ | refine blk_alloc ?_ _)); refine blk_far ?_ NB180_187.out _; (with_reducible repeat (first | refine blk_drewN ?_ _ | refine blk_drew ?_ | refine blk_alloc ?_ _)); exact BK180.out⟩, ⟨by (with_reducible repeat (first | refine blk_drewN ?_ _ | refine blk_drew ?_ | refine blk_alloc ?_ _)); refine blk_put (cs := #[u188000, u188001, .int .i64 ((rd_T44 l0_3 x4_1).f2.f0), .int .i64 ((rd_T44 l0_3 x4_1).f2.f1), .slice Ao36 y184.length co36]) ?_ 1 _ rfl; (with_reducible repeat (first | refine blk_drewN ?_ _ | refine blk_drew ?_ | refine blk_alloc ?_ _)); exact BK187.out⟩, ⟨by repeat (first | (with_reducible first | exact HB.out | apply below_alloc | apply pw_below_drewN | apply below_drew1 | refine below_set ?_ GE170.out | refine below_set ?_ GE171.out | refine below_set ?_ GE178.out | refine below_set ?_ GE180.out | refine below_set ?_ GE187.out | refine below_set ?_ GE200.out) | exact HB.out)⟩⟩
    rw [if_neg c64] at H
    have c64b0 : decide (x8_3 < (((rd_T44 l0_3 x4_1).f1).length : Int)) = false := decide_eq_false c64
    clear c64
    by_cases c95 : x179003_1.length < 1599289640401
    rotate_left
    · rw [if_neg c95] at H
      exact absurd H (by simp)
    rw [if_pos c95] at H
    have LMc95 := Aside0.mk c95
    clear c95
    obtain ⟨y210, hy210⟩ : ∃ y_ : List (S44), y_ = (x179003_1 ++ [(⟨x188000_2, x188001_3, (⟨((rd_T44 l0_3 x4_1).f2.f0), ((rd_T44 l0_3 x4_1).f2.f1), y184⟩ : S42)⟩ : S44)]) := ⟨_, rfl⟩
    replace H : (fettleref02_CopyFunc.l0 k3 (wrap64 (x4_1 + 1)) a0_0 a0_1 l0_2 l0_3 a0_0 a0_1 y175 y210) = some (r1, r2, r3, r4) := by first | (rw [hy210]; with_reducible exact H) | (have H2_ := (Option.bind_some _ _).symm.trans H; rw [hy210]; with_reducible exact H2_) | exact H
    have Ny210 := Aside0.mk hy210
    clear hy210
    have H' := Aside0.mk H
    clear H
    have hnb96 := NB180_170.out
    have hnc96 := NB170_180.out
    have hnb97 := NB180_171.out
    have hnc97 := NB171_180.out
    have hnb98 := NB180_178.out
    have hnc98 := NB178_180.out
    have hnb99 := NB180_187.out
    have hnc99 := NB187_180.out
    have hcz100_0 : wr.cell? ⟨gb180, 0, none⟩ = some (.slice A179_0 ((rd_T44 l0_3 x4_1).f0).length c179_0) := (blk_cell BK180.out 0).trans rfl
    have hcz100_1 : wr.cell? ⟨gb180, 1, none⟩ = some (.slice A179_1 ((rd_T44 l0_3 x4_1).f1).length c179_1) := (blk_cell BK180.out 1).trans rfl
    have hcz100_2 : wr.cell? ⟨gb180, 2, none⟩ = some (.int .i64 ((rd_T44 l0_3 x4_1).f2.f0)) := (blk_cell BK180.out 2).trans rfl
    have hcz100_3 : wr.cell? ⟨gb180, 3, none⟩ = some (.int .i64 ((rd_T44 l0_3 x4_1).f2.f1)) := (blk_cell BK180.out 3).trans rfl
    have hcz100_4 : wr.cell? ⟨gb180, 4, none⟩ = some (.slice A179_4 ((rd_T44 l0_3 x4_1).f2.f2).length c179_4) := (blk_cell BK180.out 4).trans rfl
    have hfz100_0 := blk_frozen BK180.out 0
    have hfz100_1 := blk_frozen BK180.out 1
    have hfz100_2 := blk_frozen BK180.out 2
    have hfz100_3 := blk_frozen BK180.out 3
    have hfz100_4 := blk_frozen BK180.out 4
    have hnb101 := NB178_170.out
    have hnc101 := NB170_178.out
    have hnb102 := NB178_171.out
    have hnc102 := NB171_178.out
    have hnb103 := NB178_187.out
    have hnc103 := NB187_178.out
    have hcz104_0 : wr.cell? ⟨gb178, 0, none⟩ = some (.int .i64 a0_0) := (blk_cell BK178.out 0).trans rfl
    have hcz104_1 : wr.cell? ⟨gb178, 1, none⟩ = some (.int .i64 a0_1) := (blk_cell BK178.out 1).trans rfl
    have hcz104_2 : wr.cell? ⟨gb178, 2, none⟩ = some (.slice Ao12 y175.length co12) := (blk_cell BK178.out 2).trans rfl
    have hcz104_3 : wr.cell? ⟨gb178, 3, none⟩ = some (u179003) := (blk_cell BK178.out 3).trans rfl
    have hfz104_0 := blk_frozen BK178.out 0
    have hfz104_1 := blk_frozen BK178.out 1
    have hfz104_2 := blk_frozen BK178.out 2
    have hfz104_3 := blk_frozen BK178.out 3
    have hnb105 := NB187_170.out
    have hnc105 := NB170_187.out
    have hnb106 := NB187_171.out
    have hnc106 := NB171_187.out
    have hcz107_0 : wr.cell? ⟨gb187, 0, none⟩ = some (u188000) := (blk_cell BK187.out 0).trans rfl
    have hcz107_1 : wr.cell? ⟨gb187, 1, none⟩ = some (u188001) := (blk_cell BK187.out 1).trans rfl
    have hcz107_2 : wr.cell? ⟨gb187, 2, none⟩ = some (.int .i64 ((rd_T44 l0_3 x4_1).f2.f0)) := (blk_cell BK187.out 2).trans rfl
    have hcz107_3 : wr.cell? ⟨gb187, 3, none⟩ = some (.int .i64 ((rd_T44 l0_3 x4_1).f2.f1)) := (blk_cell BK187.out 3).trans rfl
    have hcz107_4 : wr.cell? ⟨gb187, 4, none⟩ = some (.slice Ao36 y184.length co36) := (blk_cell BK187.out 4).trans rfl
    have hfz107_0 := blk_frozen BK187.out 0
    have hfz107_1 := blk_frozen BK187.out 1
    have hfz107_2 := blk_frozen BK187.out 2
    have hfz107_3 := blk_frozen BK187.out 3
    have hfz107_4 := blk_frozen BK187.out 4
    obtain ⟨Ao109, co109, eo109⟩ := Kd.S_slice HO_188000.out
    subst eo109
    obtain ⟨Ao110, co110, eo110⟩ := Kd.S_slice HO_188001.out
    subst eo110
    go_wp2_with (first | ((with_reducible refine gate_builtin (b := .append) (xs := #[.tmp 95, .tmp 97]) rfl ?_); at_builtin; refine Kd.R_append k44 (w0 := w) w.heap.size rfl (.tmp 95) (.tmp 97) 32 44 (.agg #[(.slice none 0 0), (.slice none 0 0), (.int .i64 0), (.int .i64 0), (.slice none 0 0)]) 88 rfl Tryd.underlying32 info44 rfl (by decide) (by omega) u179003 x179003_1 (⟨x188000_2, x188001_3, (⟨((rd_T44 l0_3 x4_1).f2.f0), ((rd_T44 l0_3 x4_1).f2.f1), y184⟩ : S42)⟩ : S44) [.slice Ao109 x188000_2.length co109, .slice Ao110 x188001_3.length co110, .int .i64 ((rd_T44 l0_3 x4_1).f2.f0), .int .i64 ((rd_T44 l0_3 x4_1).f2.f1), .slice Ao36 y184.length co36] (fun k_ => some k_ ≠ (.slice Ao12 y175.length co12 : Value).ownBlock ∧ k_ ≠ gb180 ∧ k_ ≠ gb187) (fun k_ => ((fun k_ => some k_ ≠ (.slice Ao12 y175.length co12 : Value).ownBlock ∧ k_ ≠ gb180 ∧ k_ ≠ gb187)) k_ ∧ some k_ ≠ (u179003 : Value).ownBlock) rfl rfl ?aP (fun _ hk => hk) ?aF ?aO ?aB ?aS ?aL ?_; (case aP => exact k44_mkM _ _ _ (⟨x188000_2, x188001_3, (⟨((rd_T44 l0_3 x4_1).f2.f0), ((rd_T44 l0_3 x4_1).f2.f1), y184⟩ : S42)⟩ : S44) (R_mono (Kd.R_types (Kd.R_types (Kd.R_apart' ((Kd.S_R HO_188000.out)) (Kd.R_typed HO_179003.out) (by decide)) BK180.out (by decide)) BK187.out (by decide)) (fun k_ hk => ⟨⟨hk.1.1.1.1, ⟨hk.1.2, hk.2⟩⟩, hk.1.1.2⟩)) (R_mono (Kd.R_types (Kd.R_types (Kd.R_apart' ((Kd.S_R HO_188001.out)) (Kd.R_typed HO_179003.out) (by decide)) BK180.out (by decide)) BK187.out (by decide)) (fun k_ hk => ⟨⟨hk.1.1.1.1, ⟨hk.1.2, hk.2⟩⟩, hk.1.1.2⟩)) (R_mono (Kd.R_types (Kd.R_types (Kd.R_apart' (HO_188004.out) (Kd.R_typed HO_179003.out) (by decide)) BK180.out (by decide)) BK187.out (by decide)) (fun k_ hk => ⟨⟨hk.1.1.1, ⟨hk.1.2, hk.2⟩⟩, hk.1.1.2⟩))); (case aB => exact (by repeat with_reducible first | exact HB.out | apply below_alloc | apply pw_below_drewN | apply below_drew1 | refine below_set ?_ GE170.out | refine below_set ?_ GE171.out | refine below_set ?_ GE178.out | refine below_set ?_ GE180.out | refine below_set ?_ GE187.out)); (case aF => exact (fun k_ hk => ⟨Kd.fresh' (R_lt (by (with_reducible repeat (first | apply R_alloc | apply R_drewN | apply R_drew)); exact HO_179002.out)) k_ hk, Kd.freshB (g := gb180) (o := .cells #[.slice A179_0 ((rd_T44 l0_3 x4_1).f0).length c179_0, .slice A179_1 ((rd_T44 l0_3 x4_1).f1).length c179_1, .int .i64 ((rd_T44 l0_3 x4_1).f2.f0), .int .i64 ((rd_T44 l0_3 x4_1).f2.f1), .slice A179_4 ((rd_T44 l0_3 x4_1).f2.f2).length c179_4] 44 (0, 0)) (by (with_reducible repeat (first | refine blk_drewN ?_ _ | refine blk_drew ?_ | refine blk_alloc ?_ _)); exact BK180.out) k_ hk, Kd.freshB (g := gb187) (o := .cells #[.slice Ao109 x188000_2.length co109, .slice Ao110 x188001_3.length co110, .int .i64 ((rd_T44 l0_3 x4_1).f2.f0), .int .i64 ((rd_T44 l0_3 x4_1).f2.f1), .slice Ao36 y184.length co36] 44 (0, 0)) (by (with_reducible repeat (first | refine blk_drewN ?_ _ | refine blk_drew ?_ | refine blk_alloc ?_ _)); exact BK187.out) k_ hk⟩)); (case aO => exact (by (with_reducible repeat (first | apply R_alloc | apply R_drewN | apply R_drew)); exact R_mono HO_179003.out (fun _ hk => ⟨hk.1, ⟨hk.2.2.2.2.1, hk.2.2.2.2.2⟩⟩))); (case aS => exact (below_size (by repeat with_reducible first | exact HB.out | apply below_alloc | apply pw_below_drewN | apply below_drew1 | refine below_set ?_ GE170.out | refine below_set ?_ GE171.out | refine below_set ?_ GE178.out | refine below_set ?_ GE180.out | refine below_set ?_ GE187.out))); (case aL => have := LMc95.out; omega); intro v211 w108 ho hb hg hat; rw [← Ny210.out] at ho; have n0_ := Aside0.mk (Kd.R_over' (by (with_reducible repeat (first | apply R_alloc | apply R_drewN | apply R_drew)); exact HO_179002.out) (Kd.R_typed (by (with_reducible repeat (first | apply R_alloc | apply R_drewN | apply R_drew)); exact HO_179003.out)) (by decide) hg); have n1_ := Aside0.mk (blk_grown (g := gb170) (o := .cells #[.int .i64 a0_0, .int .i64 a0_1, .slice A0_2 l0_2.length c0_2, .slice (some ad179) l0_3.length c0_3] 34 (0, 0)) (by (with_reducible repeat (first | refine blk_drewN ?_ _ | refine blk_drew ?_ | refine blk_alloc ?_ _)); exact BK170.out) hg (Kd.R_ne HO_179003.out BK170.out (by decide))); have n2_ := Aside0.mk (blk_grown (g := gb171) (o := .cells #[.int .i64 0, .int .i64 0, .slice none 0 0, .slice none 0 0] 34 (0, 0)) (by (with_reducible repeat (first | refine blk_drewN ?_ _ | refine blk_drew ?_ | refine blk_alloc ?_ _)); exact BK171.out) hg (Kd.R_ne HO_179003.out BK171.out (by decide))); have n3_ := Aside0.mk (blk_grown (g := gb178) (o := .cells #[.int .i64 a0_0, .int .i64 a0_1, .slice Ao12 y175.length co12, u179003] 34 (0, 0)) (by (with_reducible repeat (first | refine blk_drewN ?_ _ | refine blk_drew ?_ | refine blk_alloc ?_ _)); exact BK178.out) hg (Kd.R_ne HO_179003.out BK178.out (by decide))); have n4_ := Aside0.mk (blk_grown (g := gb180) (o := .cells #[.slice A179_0 ((rd_T44 l0_3 x4_1).f0).length c179_0, .slice A179_1 ((rd_T44 l0_3 x4_1).f1).length c179_1, .int .i64 ((rd_T44 l0_3 x4_1).f2.f0), .int .i64 ((rd_T44 l0_3 x4_1).f2.f1), .slice A179_4 ((rd_T44 l0_3 x4_1).f2.f2).length c179_4] 44 (0, 0)) (by (with_reducible repeat (first | refine blk_drewN ?_ _ | refine blk_drew ?_ | refine blk_alloc ?_ _)); exact BK180.out) hg (Kd.R_away HO_179003.out (fun _ hk => hk.2.2.2.2.1))); have n5_ := Aside0.mk (blk_grown (g := gb187) (o := .cells #[.slice Ao109 x188000_2.length co109, .slice Ao110 x188001_3.length co110, .int .i64 ((rd_T44 l0_3 x4_1).f2.f0), .int .i64 ((rd_T44 l0_3 x4_1).f2.f1), .slice Ao36 y184.length co36] 44 (0, 0)) (by (with_reducible repeat (first | refine blk_drewN ?_ _ | refine blk_drew ?_ | refine blk_alloc ?_ _)); exact BK187.out) hg (Kd.R_away HO_179003.out (fun _ hk => hk.2.2.2.2.2))); have n6_ := Aside0.mk (hb); have n7_ := Aside0.mk (ho); clear HO_179002; clear BK170; clear BK171; clear BK178; clear BK180; clear BK187; clear HB; clear HO_179003; clear HO_188000; clear HO_188001; clear HO_188004; have HO_179002 := n0_; have BK170 := n1_; have BK171 := n2_; have BK178 := n3_; have BK180 := n4_; have BK187 := n5_; have HB := n6_; have HO212 := n7_; clear n0_ n1_ n2_ n3_ n4_ n5_ n6_ n7_; clear ho hb hg hat; obtain ⟨Ao111, co111, eo111⟩ := Kd.R_slice HO212.out; subst eo111; have hcz112_0 : w108.cell? ⟨gb178, 0, none⟩ = some (.int .i64 a0_0) := (blk_cell BK178.out 0).trans rfl; have hcz112_1 : w108.cell? ⟨gb178, 1, none⟩ = some (.int .i64 a0_1) := (blk_cell BK178.out 1).trans rfl; have hcz112_2 : w108.cell? ⟨gb178, 2, none⟩ = some (.slice Ao12 y175.length co12) := (blk_cell BK178.out 2).trans rfl; have hcz112_3 : w108.cell? ⟨gb178, 3, none⟩ = some (u179003) := (blk_cell BK178.out 3).trans rfl; have hfz112_0 := blk_frozen BK178.out 0; have hfz112_1 := blk_frozen BK178.out 1; have hfz112_2 := blk_frozen BK178.out 2; have hfz112_3 := blk_frozen BK178.out 3))
    go_roundg k3
    case measure => have := HK1.out; have := HK2.out; have := HK3.out; omega
    case rel => exact ⟨(wrap64 (x4_1 + 1)), (y210), (.slice Ao111 y210.length co111), (by first | rfl | (simp; done) | (simp [*]; done)), H', ⟨by have := HK1.out; have := HK2.out; have := HK3.out; omega⟩, ⟨by (with_reducible repeat (first | apply R_alloc | apply R_drewN | apply R_drew)); exact R_mono (Kd.R_far (p := ⟨gb178, 3, none⟩) (Kd.R_types HO_179002.out BK178.out (by decide)) (fun _ hk => hk.2) (.slice Ao111 y210.length co111)) (fun _ hk => trivial)⟩, ⟨by (with_reducible repeat (first | apply R_alloc | apply R_drewN | apply R_drew)); exact R_mono (Kd.R_far (p := ⟨gb178, 3, none⟩) (Kd.R_types HO212.out BK178.out (by decide)) (fun _ hk => hk.2) (.slice Ao111 y210.length co111)) (fun _ hk => hk.1.1)⟩, ⟨by (with_reducible repeat (first | refine blk_drewN ?_ _ | refine blk_drew ?_ | refine blk_alloc ?_ _)); refine blk_far ?_ NB170_178.out _; (with_reducible repeat (first | refine blk_drewN ?_ _ | refine blk_drew ?_ | refine blk_alloc ?_ _)); exact BK170.out⟩, ⟨by (with_reducible repeat (first | refine blk_drewN ?_ _ | refine blk_drew ?_ | refine blk_alloc ?_ _)); refine blk_far ?_ NB171_178.out _; (with_reducible repeat (first | refine blk_drewN ?_ _ | refine blk_drew ?_ | refine blk_alloc ?_ _)); exact BK171.out⟩, ⟨by (with_reducible repeat (first | refine blk_drewN ?_ _ | refine blk_drew ?_ | refine blk_alloc ?_ _)); refine blk_put (cs := #[.int .i64 a0_0, .int .i64 a0_1, .slice Ao12 y175.length co12, u179003]) ?_ 3 _ rfl; (with_reducible repeat (first | refine blk_drewN ?_ _ | refine blk_drew ?_ | refine blk_alloc ?_ _)); exact BK178.out⟩, ⟨by repeat (first | (with_reducible first | exact HB.out | apply below_alloc | apply pw_below_drewN | apply below_drew1 | refine below_set ?_ GE170.out | refine below_set ?_ GE171.out | refine below_set ?_ GE178.out | refine below_set ?_ GE180.out | refine below_set ?_ GE187.out) | exact HB.out)⟩⟩
  rw [if_neg c17] at H
  have c17b0 : decide (x4_1 < (l0_3.length : Int)) = false := decide_eq_false c17
  clear c17
  simp only [Option.some.injEq, Prod.mk.injEq] at H
  obtain ⟨rfl, rfl, rfl, rfl⟩ := H
  have hnb113 := NB170_171.out
  have hnc113 := NB171_170.out
  have hnb114 := NB170_178.out
  have hnc114 := NB178_170.out
  have hcz115_0 : wr.cell? ⟨gb170, 0, none⟩ = some (.int .i64 a0_0) := (blk_cell BK170.out 0).trans rfl
  have hcz115_1 : wr.cell? ⟨gb170, 1, none⟩ = some (.int .i64 a0_1) := (blk_cell BK170.out 1).trans rfl
  have hcz115_2 : wr.cell? ⟨gb170, 2, none⟩ = some (.slice A0_2 l0_2.length c0_2) := (blk_cell BK170.out 2).trans rfl
  have hcz115_3 : wr.cell? ⟨gb170, 3, none⟩ = some (.slice A0_3 l0_3.length c0_3) := (blk_cell BK170.out 3).trans rfl
  have hfz115_0 := blk_frozen BK170.out 0
  have hfz115_1 := blk_frozen BK170.out 1
  have hfz115_2 := blk_frozen BK170.out 2
  have hfz115_3 := blk_frozen BK170.out 3
  have hnb116 := NB178_171.out
  have hnc116 := NB171_178.out
  have hcz117_0 : wr.cell? ⟨gb178, 0, none⟩ = some (.int .i64 a0_0) := (blk_cell BK178.out 0).trans rfl
  have hcz117_1 : wr.cell? ⟨gb178, 1, none⟩ = some (.int .i64 a0_1) := (blk_cell BK178.out 1).trans rfl
  have hcz117_2 : wr.cell? ⟨gb178, 2, none⟩ = some (.slice Ao12 y175.length co12) := (blk_cell BK178.out 2).trans rfl
  have hcz117_3 : wr.cell? ⟨gb178, 3, none⟩ = some (u179003) := (blk_cell BK178.out 3).trans rfl
  have hfz117_0 := blk_frozen BK178.out 0
  have hfz117_1 := blk_frozen BK178.out 1
  have hfz117_2 := blk_frozen BK178.out 2
  have hfz117_3 := blk_frozen BK178.out 3
  have hcz118_0 : wr.cell? ⟨gb171, 0, none⟩ = some (.int .i64 0) := (blk_cell BK171.out 0).trans rfl
  have hcz118_1 : wr.cell? ⟨gb171, 1, none⟩ = some (.int .i64 0) := (blk_cell BK171.out 1).trans rfl
  have hcz118_2 : wr.cell? ⟨gb171, 2, none⟩ = some (.slice none 0 0) := (blk_cell BK171.out 2).trans rfl
  have hcz118_3 : wr.cell? ⟨gb171, 3, none⟩ = some (.slice none 0 0) := (blk_cell BK171.out 3).trans rfl
  have hfz118_0 := blk_frozen BK171.out 0
  have hfz118_1 := blk_frozen BK171.out 1
  have hfz118_2 := blk_frozen BK171.out 2
  have hfz118_3 := blk_frozen BK171.out 3
  obtain ⟨Ao119, co119, eo119⟩ := Kd.R_slice HO_179003.out
  subst eo119
  go_wp2
  refine bodyPost_ret (results_cell_row rfl _ _ gb171 34 #[.int .i64 a0_0, .int .i64 a0_1, .slice Ao12 y175.length co12, .slice Ao119 x179003_1.length co119] (0, 0) _ rfl (by (with_reducible repeat (first | refine blk_drewN ?_ _ | refine blk_drew ?_ | refine blk_alloc ?_ _)); refine blk_put (cs := #[.int .i64 a0_0, .int .i64 a0_1, .slice Ao12 y175.length co12, .slice none 0 0]) ?_ 3 _ rfl; (with_reducible repeat (first | refine blk_drewN ?_ _ | refine blk_drew ?_ | refine blk_alloc ?_ _)); refine blk_put (cs := #[.int .i64 a0_0, .int .i64 a0_1, .slice none 0 0, .slice none 0 0]) ?_ 2 _ rfl; (with_reducible repeat (first | refine blk_drewN ?_ _ | refine blk_drew ?_ | refine blk_alloc ?_ _)); refine blk_put (cs := #[.int .i64 a0_0, .int .i64 0, .slice none 0 0, .slice none 0 0]) ?_ 1 _ rfl; (with_reducible repeat (first | refine blk_drewN ?_ _ | refine blk_drew ?_ | refine blk_alloc ?_ _)); refine blk_put (cs := #[.int .i64 0, .int .i64 0, .slice none 0 0, .slice none 0 0]) ?_ 0 _ rfl; (with_reducible repeat (first | refine blk_drewN ?_ _ | refine blk_drew ?_ | refine blk_alloc ?_ _)); exact BK171.out) Tryd.underlying34 rfl (by kernel_rfl)) rfl ?_
  exact ⟨_, _, by first | rfl | (simp [errW_none, errW_some] <;> rfl) | (simp [*, errW_none, errW_some] <;> rfl), by (with_reducible repeat (first | apply R_alloc | apply R_drewN | apply R_drew)); exact R_mono (Kd.R_far (p := ⟨gb171, 3, none⟩) (Kd.R_far (p := ⟨gb171, 2, none⟩) (Kd.R_far (p := ⟨gb171, 1, none⟩) (Kd.R_far (p := ⟨gb171, 0, none⟩) (Kd.R_types HO_179002.out BK171.out (by decide)) (fun _ hk => hk.2) (.int .i64 a0_0)) (fun _ hk => hk.2) (.int .i64 a0_1)) (fun _ hk => hk.2) (.slice Ao12 y175.length co12)) (fun _ hk => hk.2) (.slice Ao119 x179003_1.length co119)) (fun _ hk => trivial), by (with_reducible repeat (first | apply R_alloc | apply R_drewN | apply R_drew)); exact R_mono (Kd.R_far (p := ⟨gb171, 3, none⟩) (Kd.R_far (p := ⟨gb171, 2, none⟩) (Kd.R_far (p := ⟨gb171, 1, none⟩) (Kd.R_far (p := ⟨gb171, 0, none⟩) (Kd.R_types HO_179003.out BK171.out (by decide)) (fun _ hk => hk.2) (.int .i64 a0_0)) (fun _ hk => hk.2) (.int .i64 a0_1)) (fun _ hk => hk.2) (.slice Ao12 y175.length co12)) (fun _ hk => hk.2) (.slice Ao119 x179003_1.length co119)) (fun _ hk => hk.1), by repeat (first | (with_reducible first | exact HB.out | apply below_alloc | apply pw_below_drewN | apply below_drew1 | refine below_set ?_ GE170.out | refine below_set ?_ GE171.out | refine below_set ?_ GE178.out) | exact HB.out)⟩
end Go.Proofs.YtocjpkjijjdnbaaDoor.PCheckMore
