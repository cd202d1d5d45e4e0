-- Laid by a program of this session (wip/pp/patch.py over the kit's print).
import Derived.Test.YtckebppacealeaaDoorPCodeUnlikex0
import Derived.Test.YtckebppacealeaaDoorPCodeUnlikeI
import Derived.Test.YtckebppacealeaaDoorShort
namespace Go.Proofs.YtckebppacealeaaDoor.PCodeUnlike
open Go.Proofs.YtckebppacealeaaDoor.Short Go.RowKit Go.Proofs.YtckebppacealeaaDoorW.PrintWords Go.Proofs.YtckebppacealeaaDoorW.PrintLast Go.Proofs.YtckebppacealeaaDoorW.PrintMore Go.Proofs.YtckebppacealeaaDoorW.PrintWords.Kd
attribute [local go_sem] max2_int min2_int max_two min_two max_three min_three max_four min_four   -- for this text's walks alone
attribute [local go_sem] eqErr29 neErr29 nilErr29
set_option linter.unusedVariables false
set_option linter.unusedSimpArgs false

/-! ### fettleref02_CopyFunc: function 39 -/
mutual
def fettleref02_CopyFunc.l0 : Nat → Int → Int → Int → List Int → List (S56) → Int → Int → List Int → List (S56) → Option (Int × Int × List Int × (List (S56)))
  | 0, _, _, _, _, _, _, _, _, _ => none
  | k + 1, x4, x266000, x266001, x266002, x266003, x274000, x274001, x274002, x274003 => if x4 < (x266003.length : Int) then (if 0 ≤ x4 then ((some (([] : List Int) : List Int)).bind fun y276 => (if y276.length + ((rd_T56 x266003 x4).f2.f2).length < 17592186044416 then (fettleref02_CopyFunc.l1 k x4 0 x266000 x266001 x266002 x266003 x274000 x274001 x274002 x274003 ((rd_T56 x266003 x4).f0) ((rd_T56 x266003 x4).f1) ((rd_T56 x266003 x4).f2.f0) ((rd_T56 x266003 x4).f2.f1) ((rd_T56 x266003 x4).f2.f2) ([] : List (S60)) ((rd_T56 x266003 x4).f2.f0) ((rd_T56 x266003 x4).f2.f1) (y276 ++ ((rd_T56 x266003 x4).f2.f2))) else (none))) else (none)) else (some (x274000, x274001, x274002, x274003))
def fettleref02_CopyFunc.l1 : Nat → Int → Int → Int → Int → List Int → List (S56) → Int → Int → List Int → List (S56) → List (S60) → List (S58) → Int → Int → List Int → List (S60) → Int → Int → List Int → Option (Int × Int × List Int × (List (S56)))
  | 0, _, _, _, _, _, _, _, _, _, _, _, _, _, _, _, _, _, _, _ => none
  | k + 1, x4, x7, x266000, x266001, x266002, x266003, x274000, x274001, x274002, x274003, x276000, x276001, x276002, x276003, x276004, x283000, x283002, x283003, x283004 => if x7 < (x276000.length : Int) then (if 0 ≤ x7 then ((some (([] : List Int) : List Int)).bind fun y284 => (if y284.length + ((rd_T60 x276000 x7).f1).length < 17592186044416 then (if x283000.length < 4398046511104 then (fettleref02_CopyFunc.l1 k x4 (wrap64 (x7 + 1)) x266000 x266001 x266002 x266003 x274000 x274001 x274002 x274003 x276000 x276001 x276002 x276003 x276004 (x283000 ++ [(⟨(rd_T60 x276000 x7).f0, (y284 ++ ((rd_T60 x276000 x7).f1))⟩ : S60)]) x283002 x283003 x283004) else (none)) else (none))) else (none)) else (fettleref02_CopyFunc.l2 k x4 0 x266000 x266001 x266002 x266003 x274000 x274001 x274002 x274003 x276000 x276001 x276002 x276003 x276004 x283000 ([] : List (S58)) x283002 x283003 x283004)
def fettleref02_CopyFunc.l2 : Nat → Int → Int → Int → Int → List Int → List (S56) → Int → Int → List Int → List (S56) → List (S60) → List (S58) → Int → Int → List Int → List (S60) → List (S58) → Int → Int → List Int → Option (Int × Int × List Int × (List (S56)))
  | 0, _, _, _, _, _, _, _, _, _, _, _, _, _, _, _, _, _, _, _, _ => none
  | k + 1, x4, x8, x266000, x266001, x266002, x266003, x274000, x274001, x274002, x274003, x276000, x276001, x276002, x276003, x276004, x283000, x283001, x283002, x283003, x283004 => if x8 < (x276001.length : Int) then (if 0 ≤ x8 then ((some (([] : List Int) : List Int)).bind fun y296 => (if y296.length + ((rd_T58 x276001 x8).f2).length < 17592186044416 then (if x283001.length < 2513169434916 then (fettleref02_CopyFunc.l2 k x4 (wrap64 (x8 + 1)) x266000 x266001 x266002 x266003 x274000 x274001 x274002 x274003 x276000 x276001 x276002 x276003 x276004 x283000 (x283001 ++ [(⟨(rd_T58 x276001 x8).f0, (rd_T58 x276001 x8).f1, (y296 ++ ((rd_T58 x276001 x8).f2)), (rd_T58 x276001 x8).f3, (rd_T58 x276001 x8).f4⟩ : S58)]) x283002 x283003 x283004) else (none)) else (none))) else (none)) else (if x274003.length < 1599289640401 then (fettleref02_CopyFunc.l0 k (wrap64 (x4 + 1)) x266000 x266001 x266002 x266003 x274000 x274001 x274002 (x274003 ++ [(⟨x283000, x283001, (⟨x283002, x283003, x283004⟩ : S54)⟩ : S56)])) else (none))
end
def fettleref02_CopyFunc.f (k : Nat) (a0_0 : Int) (a0_1 : Int) (l0_2 : List Int) (l0_3 : List (S56)) : Option (Int × Int × List Int × (List (S56))) := (some (([] : List Int) : List Int)).bind fun y267 => (if y267.length + l0_2.length < 17592186044416 then (fettleref02_CopyFunc.l0 k 0 a0_0 a0_1 l0_2 l0_3 a0_0 a0_1 (y267 ++ l0_2) ([] : List (S56))) else (none))
theorem fettleref02_CopyFunc.mono_l : ∀ k, (∀ y0 y1 y2 y3 y4 y5 y6 y7 y8, LeO (fettleref02_CopyFunc.l0 k y0 y1 y2 y3 y4 y5 y6 y7 y8) (fettleref02_CopyFunc.l0 (k + 1) y0 y1 y2 y3 y4 y5 y6 y7 y8)) ∧ (∀ y0 y1 y2 y3 y4 y5 y6 y7 y8 y9 y10 y11 y12 y13 y14 y15 y16 y17 y18, LeO (fettleref02_CopyFunc.l1 k y0 y1 y2 y3 y4 y5 y6 y7 y8 y9 y10 y11 y12 y13 y14 y15 y16 y17 y18) (fettleref02_CopyFunc.l1 (k + 1) y0 y1 y2 y3 y4 y5 y6 y7 y8 y9 y10 y11 y12 y13 y14 y15 y16 y17 y18)) ∧ (∀ y0 y1 y2 y3 y4 y5 y6 y7 y8 y9 y10 y11 y12 y13 y14 y15 y16 y17 y18 y19, LeO (fettleref02_CopyFunc.l2 k y0 y1 y2 y3 y4 y5 y6 y7 y8 y9 y10 y11 y12 y13 y14 y15 y16 y17 y18 y19) (fettleref02_CopyFunc.l2 (k + 1) y0 y1 y2 y3 y4 y5 y6 y7 y8 y9 y10 y11 y12 y13 y14 y15 y16 y17 y18 y19))
  | 0 => ⟨fun _ _ _ _ _ _ _ _ _ r h => by simp [fettleref02_CopyFunc.l0] at h, fun _ _ _ _ _ _ _ _ _ _ _ _ _ _ _ _ _ _ _ r h => by simp [fettleref02_CopyFunc.l1] at h, fun _ _ _ _ _ _ _ _ _ _ _ _ _ _ _ _ _ _ _ _ r h => by simp [fettleref02_CopyFunc.l2] at h⟩
  | k + 1 => by
    obtain ⟨ih0, ih1, ih2⟩ := fettleref02_CopyFunc.mono_l k
    refine ⟨?_, ?_, ?_⟩
    · intro y0 y1 y2 y3 y4 y5 y6 y7 y8
      unfold fettleref02_CopyFunc.l0
      repeat' first
      | (with_reducible exact ih0 _ _ _ _ _ _ _ _ _)
      | (with_reducible exact ih1 _ _ _ _ _ _ _ _ _ _ _ _ _ _ _ _ _ _ _)
      | (with_reducible exact ih2 _ _ _ _ _ _ _ _ _ _ _ _ _ _ _ _ _ _ _ _)
      | (with_reducible exact LeO.refl _)
      | (with_reducible exact LeO.none _)
      | (with_reducible refine LeO.ite ?_ ?_)
      | (with_reducible refine LeO.bind ?_ (fun _ => ?_))
      | exact ih0 _ _ _ _ _ _ _ _ _
      | exact ih1 _ _ _ _ _ _ _ _ _ _ _ _ _ _ _ _ _ _ _
      | exact ih2 _ _ _ _ _ _ _ _ _ _ _ _ _ _ _ _ _ _ _ _
      | exact LeO.none _
      | refine LeO.ite ?_ ?_
      | refine LeO.bind ?_ (fun _ => ?_)
    · intro y0 y1 y2 y3 y4 y5 y6 y7 y8 y9 y10 y11 y12 y13 y14 y15 y16 y17 y18
      unfold fettleref02_CopyFunc.l1
      repeat' first
      | (with_reducible exact ih0 _ _ _ _ _ _ _ _ _)
      | (with_reducible exact ih1 _ _ _ _ _ _ _ _ _ _ _ _ _ _ _ _ _ _ _)
      | (with_reducible exact ih2 _ _ _ _ _ _ _ _ _ _ _ _ _ _ _ _ _ _ _ _)
      | (with_reducible exact LeO.refl _)
      | (with_reducible exact LeO.none _)
      | (with_reducible refine LeO.ite ?_ ?_)
      | (with_reducible refine LeO.bind ?_ (fun _ => ?_))
      | exact ih0 _ _ _ _ _ _ _ _ _
      | exact ih1 _ _ _ _ _ _ _ _ _ _ _ _ _ _ _ _ _ _ _
      | exact ih2 _ _ _ _ _ _ _ _ _ _ _ _ _ _ _ _ _ _ _ _
      | exact LeO.none _
      | refine LeO.ite ?_ ?_
      | refine LeO.bind ?_ (fun _ => ?_)
    · intro y0 y1 y2 y3 y4 y5 y6 y7 y8 y9 y10 y11 y12 y13 y14 y15 y16 y17 y18 y19
      unfold fettleref02_CopyFunc.l2
      repeat' first
      | (with_reducible exact ih0 _ _ _ _ _ _ _ _ _)
      | (with_reducible exact ih1 _ _ _ _ _ _ _ _ _ _ _ _ _ _ _ _ _ _ _)
      | (with_reducible exact ih2 _ _ _ _ _ _ _ _ _ _ _ _ _ _ _ _ _ _ _ _)
      | (with_reducible exact LeO.refl _)
      | (with_reducible exact LeO.none _)
      | (with_reducible refine LeO.ite ?_ ?_)
      | (with_reducible refine LeO.bind ?_ (fun _ => ?_))
      | exact ih0 _ _ _ _ _ _ _ _ _
      | exact ih1 _ _ _ _ _ _ _ _ _ _ _ _ _ _ _ _ _ _ _
      | exact ih2 _ _ _ _ _ _ _ _ _ _ _ _ _ _ _ _ _ _ _ _
      | exact LeO.none _
      | refine LeO.ite ?_ ?_
      | refine LeO.bind ?_ (fun _ => ?_)
theorem fettleref02_CopyFunc.mono : ∀ a0 a1 a2 a3 k, LeO (fettleref02_CopyFunc.f k a0 a1 a2 a3) (fettleref02_CopyFunc.f (k + 1) a0 a1 a2 a3) := by
  intro a0 a1 a2 a3 k
  obtain ⟨ih0, ih1, ih2⟩ := fettleref02_CopyFunc.mono_l k
  unfold fettleref02_CopyFunc.f
  repeat' first
      | (with_reducible exact ih0 _ _ _ _ _ _ _ _ _)
      | (with_reducible exact ih1 _ _ _ _ _ _ _ _ _ _ _ _ _ _ _ _ _ _ _)
      | (with_reducible exact ih2 _ _ _ _ _ _ _ _ _ _ _ _ _ _ _ _ _ _ _ _)
      | (with_reducible exact LeO.refl _)
      | (with_reducible exact LeO.none _)
      | (with_reducible refine LeO.ite ?_ ?_)
      | (with_reducible refine LeO.bind ?_ (fun _ => ?_))
      | exact ih0 _ _ _ _ _ _ _ _ _
      | exact ih1 _ _ _ _ _ _ _ _ _ _ _ _ _ _ _ _ _ _ _
      | exact ih2 _ _ _ _ _ _ _ _ _ _ _ _ _ _ _ _ _ _ _ _
      | exact LeO.none _
      | refine LeO.ite ?_ ?_
      | refine LeO.bind ?_ (fun _ => ?_)
def fettleref02_CopyFunc.T1 : Bool × List (List Nat × List Nat) := (true, [([], []), ([0], [0]), ([], []), ([2], [2]), ([], []), ([], []), ([5], [5]), ([4, 6], [4, 6]), ([1, 3, 7], [1, 3, 7]), ([], []), ([9, 8, 7, 0, 1, 2, 3, 4, 5, 6, 7, 8, 9], [8, 9])])
def fettleref02_CopyFunc.B1 : List Nat := [0, 1, 0, 4, 0, 0, 32, 112, 255, 0, 1023]
theorem fettleref02_CopyFunc.tab1 : rtab .any (opsOf Tryd.f39 1) = fettleref02_CopyFunc.T1 := by kernel_rfl
theorem fettleref02_CopyFunc.bits1 : waitsOk fettleref02_CopyFunc.T1.2 fettleref02_CopyFunc.B1 = true := by kernel_rfl
def fettleref02_CopyFunc.T6 : Bool × List (List Nat × List Nat) := (true, [([], []), ([0], [0]), ([1], [1]), ([], []), ([3], [3]), ([4], [4]), ([], []), ([], []), ([7], [7]), ([8], [8]), ([6, 9], [6, 9]), ([2, 5, 10], [2, 5, 10]), ([11], [11]), ([], []), ([13, 12, 10, 0, 1, 2, 3, 4, 5, 6, 7, 8, 9, 10, 11, 12, 13], [12, 13])])
def fettleref02_CopyFunc.B6 : List Nat := [0, 1, 3, 0, 8, 24, 0, 0, 128, 384, 960, 2047, 4095, 0, 16383]
theorem fettleref02_CopyFunc.tab6 : rtab .any (opsOf Tryd.f39 6) = fettleref02_CopyFunc.T6 := by kernel_rfl
theorem fettleref02_CopyFunc.bits6 : waitsOk fettleref02_CopyFunc.T6.2 fettleref02_CopyFunc.B6 = true := by kernel_rfl
def fettleref02_CopyFunc.T10 : Bool × List (List Nat × List Nat) := (true, [([], []), ([0], [0]), ([], []), ([2], [2]), ([], []), ([3, 4], [3, 4]), ([5], [5]), ([6], [6]), ([], []), ([], []), ([9], [9]), ([], []), ([10, 11], [10, 11]), ([12], [12]), ([13], [13]), ([8, 14], [8, 14]), ([7, 15], [7, 15]), ([16], [16]), ([1, 17, 15], [1, 17]), ([0, 1, 2, 3, 4, 5, 6, 7, 8, 9, 10, 11, 12, 13, 14, 15, 16, 17, 18], []), ([19, 18, 18, 0, 1, 2, 3, 4, 5, 6, 7, 8, 9, 10, 11, 12, 13, 14, 15, 16, 17, 18], [18, 19])])
def fettleref02_CopyFunc.B10 : List Nat := [0, 1, 0, 4, 0, 28, 60, 124, 0, 0, 512, 0, 3584, 7680, 15872, 32512, 65532, 131068, 262143, 524287, 1048575]
theorem fettleref02_CopyFunc.tab10 : rtab .any (opsOf Tryd.f39 10) = fettleref02_CopyFunc.T10 := by kernel_rfl
theorem fettleref02_CopyFunc.bits10 : waitsOk fettleref02_CopyFunc.T10.2 fettleref02_CopyFunc.B10 = true := by kernel_rfl
set_option maxHeartbeats 8000000 in
set_option maxRecDepth 100000 in
theorem fettleref02_CopyFunc.calls (k : Nat) (a0_0 : Int) (a0_1 : Int) (A0_2 : Option Addr) (c0_2 : Nat) (l0_2 : List Int) (A0_3 : Option Addr) (c0_3 : Nat) (l0_3 : List (S56)) (r1 : Int) (r2 : Int) (r3 : List Int) (r4 : List (S56)) (w : World) (hr0_2 : Kd.C (Kd.int .i64) w A0_2 l0_2.length l0_2) (hc0_2 : l0_2.length ≤ c0_2) (hr0_3 : Kd.C k56 w A0_3 l0_3.length l0_3) (hc0_3 : l0_3.length ≤ c0_3) (h : fettleref02_CopyFunc.f k a0_0 a0_1 l0_2 l0_3 = some (r1, r2, r3, r4)) :
    Calls Tryd.prog 39 #[.agg #[.int .i64 a0_0, .int .i64 a0_1, .slice A0_2 l0_2.length c0_2, .slice A0_3 l0_3.length c0_3]] w fun e w' => ∃ v2_ v3_ : Value, e = .returned (.agg #[.int .i64 r1, .int .i64 r2, v2_, v3_]) ∧ Kd.R (Kd.int .i64) 3 w' w.heap.size (fun _ => True) v2_ r3 ∧ Kd.R k56 56 w' w.heap.size (fun k_ => some k_ ≠ (v2_ : Value).ownBlock) v3_ r4 ∧ Below w.heap.size w w' := by
  have hu50 := Tryd.underlying50
  have hu56 := Tryd.underlying56
  have hu54 := Tryd.underlying54
  have hu60 := Tryd.underlying60
  have hu58 := Tryd.underlying58
  have HR0_2 := Aside0.mk hr0_2
  have HC0_2 := Aside0.mk hc0_2
  clear hr0_2 hc0_2
  have HR0_3 := Aside0.mk hr0_3
  have HC0_3 := Aside0.mk hc0_3
  clear hr0_3 hc0_3
  have HB := Aside0.mk (Below.refl w.heap.size w)
  have H : ((some (([] : List Int) : List Int)).bind fun y267 => (if y267.length + l0_2.length < 17592186044416 then (fettleref02_CopyFunc.l0 k 0 a0_0 a0_1 l0_2 l0_3 a0_0 a0_1 (y267 ++ l0_2) ([] : List (S56))) else (none))) = some (r1, r2, r3, r4) := h
  clear h
  obtain ⟨y267, hy267⟩ : ∃ y_ : List Int, y_ = (([] : List Int)) := ⟨_, rfl⟩
  replace H : (if y267.length + l0_2.length < 17592186044416 then (fettleref02_CopyFunc.l0 k 0 a0_0 a0_1 l0_2 l0_3 a0_0 a0_1 (y267 ++ l0_2) ([] : List (S56))) else (none)) = some (r1, r2, r3, r4) := by first | (rw [hy267]; with_reducible exact H) | (have H2_ := (Option.bind_some _ _).symm.trans H; rw [hy267]; with_reducible exact H2_) | exact H
  have Ny267 := Aside0.mk hy267
  clear hy267
  by_cases c2 : y267.length + l0_2.length < 17592186044416
  rotate_left
  · rw [if_neg c2] at H
    exact absurd H (by simp)


  rw [if_pos c2] at H
  have LMc2 := Aside0.mk c2
  clear c2
  obtain ⟨y270, hy270⟩ : ∃ y_ : List Int, y_ = (y267 ++ l0_2) := ⟨_, rfl⟩
  replace H : (fettleref02_CopyFunc.l0 k 0 a0_0 a0_1 l0_2 l0_3 a0_0 a0_1 y270 ([] : List (S56))) = some (r1, r2, r3, r4) := by first | (rw [hy270]; with_reducible exact H) | (have H2_ := (Option.bind_some _ _).symm.trans H; rw [hy270]; with_reducible exact H2_) | exact H
  have Ny270 := Aside0.mk hy270
  clear hy270
  have H' := Aside0.mk H
  clear H
  go_enter Tryd.func39, Tryd.ntmps39
  try go_wp2_with (first | ((with_reducible refine gate_dst (N := 1) rfl ?_); refine box_event ?hg (N := 1) ?hd (cs := #[.int .i64 a0_0, .int .i64 a0_1, .slice A0_2 l0_2.length c0_2, .slice A0_3 l0_3.length c0_3]) (t := 50) ?hr ?_; (case hd => rfl); (case hg => rfl); (case hr => first | (go_simp; done) | (go_simp; rfl)); intro gb265 hg w3 hbox hb; have n0_ := Aside0.mk (below_step (by repeat with_reducible first | exact HB.out | apply below_alloc | apply pw_below_drewN | apply below_drew1) hb); have n1_ := Aside0.mk (hbox); have n2_ := Aside0.mk ((by rw [hg]; exact (below_size (by repeat with_reducible first | exact HB.out | apply below_alloc | apply pw_below_drewN | apply below_drew1)) : w.heap.size ≤ gb265)); have n3_ := Aside0.mk ((by rw [hg]; exact (below_size (by repeat with_reducible first | exact HB.out | apply below_alloc | apply pw_below_drewN | apply below_drew1)) : w.heap.size ≤ gb265)); clear HB; have HB := n0_; have BK265 := n1_; have GW265 := n2_; have GE265 := n3_; clear n0_ n1_ n2_ n3_; clear hb hbox hg) | ((with_reducible refine gate_dst (N := 2) rfl ?_); refine box_event ?hg (N := 2) ?hd (cs := #[.int .i64 0, .int .i64 0, .slice none 0 0, .slice none 0 0]) (t := 50) ?hr ?_; (case hd => rfl); (case hg => rfl); (case hr => first | (go_simp; done) | (go_simp; rfl)); intro gb266 hg w4 hbox hb; have n0_ := Aside0.mk (blk_below (g := gb265) (o := .cells #[.int .i64 a0_0, .int .i64 a0_1, .slice A0_2 l0_2.length c0_2, .slice A0_3 l0_3.length c0_3] 50 (0, 0)) (by (with_reducible repeat (first | refine blk_drewN ?_ _ | refine blk_drew ?_ | refine blk_alloc ?_ _)); exact BK265.out) hb); have n1_ := Aside0.mk (below_step (by repeat with_reducible first | exact HB.out | apply below_alloc | apply pw_below_drewN | apply below_drew1 | refine below_set ?_ GE265.out) hb); have n2_ := Aside0.mk (hbox); have n3_ := Aside0.mk ((by rw [hg]; exact (below_size (by repeat with_reducible first | exact HB.out | apply below_alloc | apply pw_below_drewN | apply below_drew1 | refine below_set ?_ GE265.out)) : w.heap.size ≤ gb266)); have n4_ := Aside0.mk ((by rw [hg]; exact (below_size (by repeat with_reducible first | exact HB.out | apply below_alloc | apply pw_below_drewN | apply below_drew1 | refine below_set ?_ GE265.out)) : w.heap.size ≤ gb266)); have n5_ := Aside0.mk ((by rw [hg]; exact Nat.ne_of_lt (blk_lt (g := gb265) (o := .cells #[.int .i64 a0_0, .int .i64 a0_1, .slice A0_2 l0_2.length c0_2, .slice A0_3 l0_3.length c0_3] 50 (0, 0)) (by (with_reducible repeat (first | refine blk_drewN ?_ _ | refine blk_drew ?_ | refine blk_alloc ?_ _)); exact BK265.out)) : gb265 ≠ gb266)); have n6_ := Aside0.mk ((by rw [hg]; exact Nat.ne_of_gt (blk_lt (g := gb265) (o := .cells #[.int .i64 a0_0, .int .i64 a0_1, .slice A0_2 l0_2.length c0_2, .slice A0_3 l0_3.length c0_3] 50 (0, 0)) (by (with_reducible repeat (first | refine blk_drewN ?_ _ | refine blk_drew ?_ | refine blk_alloc ?_ _)); exact BK265.out)) : gb266 ≠ gb265)); clear BK265; clear HB; have BK265 := n0_; have HB := n1_; have BK266 := n2_; have GW266 := n3_; have GE266 := n4_; have NB265_266 := n5_; have NB266_265 := n6_; clear n0_ n1_ n2_ n3_ n4_ n5_ n6_; clear hb hbox hg))
  have n0_ := Aside0.mk (blk_drew BK265.out)
  have n1_ := Aside0.mk (blk_drew BK266.out)
  have n2_ := Aside0.mk (below_drew1 HB.out)
  clear BK265
  clear BK266
  clear HB
  have BK265 := n0_
  have BK266 := n1_
  have HB := n2_
  clear n0_ n1_ n2_
  refine start_ (n := 11) (S := fun w' => w'.cell? ⟨gb265, 0, none⟩ = some (.int .i64 a0_0) ∧ w'.cell? ⟨gb265, 1, none⟩ = some (.int .i64 a0_1) ∧ w'.cell? ⟨gb265, 2, none⟩ = some (.slice A0_2 l0_2.length c0_2) ∧ w'.cell? ⟨gb265, 3, none⟩ = some (.slice A0_3 l0_3.length c0_3)) (ds := []) #[false, false, false, false, false, false, false, false, false, false, false] (by kernel_rfl) rfl rfl ⟨(blk_cell BK265.out 0).trans rfl, (blk_cell BK265.out 1).trans rfl, (blk_cell BK265.out 2).trans rfl, (blk_cell BK265.out 3).trans rfl⟩ (fun hHeld => ?_); refine with_tabW fettleref02_CopyFunc.tab1 fettleref02_CopyFunc.bits1 (fun HT_ HW_ => ?_)
  generalize w4.drew = w5 at BK265 BK266 HB hHeld ⊢
  refine pu 0 10 (bt 11 1) HT_.out ?_
  refine pu 2 12 (bt 11 5) HT_.out ?_
  refine pu 5 15 (bt 11 37) HT_.out ?_
  refine tk 1 11 (bt 11 39) HT_.out HW_.out hHeld rfl rfl (by rintro w' ⟨s0, s1, s2, s3⟩; go_simp; with_reducible rfl) ?_
  refine tk 3 13 (bt 11 47) HT_.out HW_.out hHeld rfl rfl (by rintro w' ⟨s0, s1, s2, s3⟩; go_simp; with_reducible rfl) ?_
  refine tk 6 16 (bt 11 111) HT_.out HW_.out hHeld rfl rfl (by rintro w' ⟨s0, s1, s2, s3⟩; go_simp; with_reducible rfl) ?_
  refine join_ (σ := Value × Value × Nat) 1 (bt 11 1023) (fun s_ => [(14, s_.1), (17, s_.2.1), (3, .pointer (some ⟨s_.2.2, 0, none⟩)), (18, .agg #[.int .i64 a0_0, .int .i64 a0_1, s_.2.1, .slice none 0 0])]) (fun s_ w' => (w'.cell? ⟨gb265, 0, none⟩ = some (.int .i64 a0_0) ∧ w'.cell? ⟨gb265, 1, none⟩ = some (.int .i64 a0_1) ∧ w'.cell? ⟨gb265, 2, none⟩ = some (.slice A0_2 l0_2.length c0_2) ∧ w'.cell? ⟨gb265, 3, none⟩ = some (.slice A0_3 l0_3.length c0_3)) ∧ (Kd.R (Kd.int .i64) 3 w' w.heap.size (fun _ => True) s_.2.1 y270) ∧ (w'.heap[gb265]? = some (.cells #[.int .i64 a0_0, .int .i64 a0_1, .slice A0_2 l0_2.length c0_2, .slice A0_3 l0_3.length c0_3] 50 (0, 0))) ∧ (w'.heap[gb266]? = some (.cells #[.int .i64 0, .int .i64 0, .slice none 0 0, .slice none 0 0] 50 (0, 0))) ∧ (w'.heap[s_.2.2]? = some (.cells #[.int .i64 0, .int .i64 0, .slice none 0 0, .slice none 0 0] 50 (0, 0))) ∧ (w.heap.size ≤ s_.2.2) ∧ (w.heap.size ≤ s_.2.2) ∧ (gb265 ≠ s_.2.2) ∧ (s_.2.2 ≠ gb265) ∧ (gb266 ≠ s_.2.2) ∧ (s_.2.2 ≠ gb266) ∧ (Below w.heap.size w w')) ?_ ?_
  rotate_left
  · intro hCont
    refine two_ (i := 4) (j := 9) (Ni := some 14) (Nj := some 3) (bt 11 127) (bt 11 623) rfl rfl rfl rfl (two_of HT_.out (by kernel_rfl)) (by decide) (by decide) (fun K hK => ?_) (fun K hK => ?_)
    · skip
      refine Kd.R_lit_step (Kd.int .i64) _ 3 ?hg (N := 14) ?hd (xs := ([] : List Int)) (inner := []) (ok := fun _ => True) (okp := fun _ => True) ?hr ?hp (fun _ hk => hk) trivial (Below.refl _ _) (Nat.le_refl _) (by simp) ?_; (case hd => rfl); (case hg => rfl); (case hr => first | (go_simp; done) | (go_simp; rfl)); (case hp => exact (Reps.none _ _))
      intro v268 w6 ho7 hb hg_ hnew_
      clear hg_ hnew_
      rw [← Ny267.out] at ho7
      have n0_ := Aside0.mk (Kd.R_lower ho7 (below_size (by repeat with_reducible first | exact HB.out | apply below_alloc | apply pw_below_drewN | apply below_drew1 | refine below_set ?_ GE265.out | refine below_set ?_ GE266.out)))
      have n1_ := Aside0.mk (blk_below (g := gb265) (o := .cells #[.int .i64 a0_0, .int .i64 a0_1, .slice A0_2 l0_2.length c0_2, .slice A0_3 l0_3.length c0_3] 50 (0, 0)) (by (with_reducible repeat (first | refine blk_drewN ?_ _ | refine blk_drew ?_ | refine blk_alloc ?_ _)); exact BK265.out) hb)
      have n2_ := Aside0.mk (blk_below (g := gb266) (o := .cells #[.int .i64 0, .int .i64 0, .slice none 0 0, .slice none 0 0] 50 (0, 0)) (by (with_reducible repeat (first | refine blk_drewN ?_ _ | refine blk_drew ?_ | refine blk_alloc ?_ _)); exact BK266.out) hb)
      have n3_ := Aside0.mk (below_step (by repeat with_reducible first | exact HB.out | apply below_alloc | apply pw_below_drewN | apply below_drew1 | refine below_set ?_ GE265.out | refine below_set ?_ GE266.out) hb)
      clear BK265
      clear BK266
      clear HB
      have HO269 := n0_
      have BK265 := n1_
      have BK266 := n2_
      have HB := n3_
      clear n0_ n1_ n2_ n3_
      clear hb ho7
      refine hK.out _ _ ⟨(blk_cell BK265.out 0).trans rfl, (blk_cell BK265.out 1).trans rfl, (blk_cell BK265.out 2).trans rfl, (blk_cell BK265.out 3).trans rfl⟩ (fun hHeld => ?_)
      clear hK K
      refine norm_ (a' := ?_) ?_ ?_
      rotate_left
      · show Act.put _ (some 14) _ = _
        simp only [Act.put, List.setIfInBounds_toArray, List.set_cons_zero, List.set_cons_succ, i64_w, i32_w]
        rfl
      refine two_ (i := 7) (j := 9) (Ni := some 17) (Nj := some 3) (bt 11 255) (bt 11 639) rfl rfl rfl rfl (two_of HT_.out (by kernel_rfl)) (by decide) (by decide) (fun K hK => ?_) (fun K hK => ?_)
      · skip
        refine Kd.R_append_rows_step (Kd.int .i64) (w0 := w) w.heap.size (by rfl) (.tmp 14) (.tmp 16) 47 3 (.int .i64 0) 8 rfl Tryd.underlying47 info3 rfl (by decide) (by omega) v268 y267 l0_2 _ _ _ (fun _ => True) (fun _ => False) rfl rfl ?aO ?aR (fun _ _ h => h) (fun _ h => h.elim) ?aF ?aB ?aS ?aL ?_
        (case aR => repeat (first | exact (C_below HR0_2.out HB.out) | (with_reducible refine C_alloc ?_ _) | (with_reducible refine C_drewN ?_ _) | (with_reducible refine C_drew ?_)))
        (case aB => exact (by repeat with_reducible first | exact HB.out | apply below_alloc | apply pw_below_drewN | apply below_drew1 | refine below_set ?_ GE265.out | refine below_set ?_ GE266.out))
        (case aF => exact (fun _ _ => trivial))
        (case aO => exact (by (with_reducible repeat (first | apply R_alloc | apply R_drewN | apply R_drew)); exact HO269.out))
        (case aS => exact (below_size (by repeat with_reducible first | exact HB.out | apply below_alloc | apply pw_below_drewN | apply below_drew1 | refine below_set ?_ GE265.out | refine below_set ?_ GE266.out)))
        (case aL => have := LMc2.out; omega)
        intro v271 w8 ho hb hg hat
        rw [← Ny270.out] at ho
        have n0_ := Aside0.mk (blk_grown (g := gb265) (o := .cells #[.int .i64 a0_0, .int .i64 a0_1, .slice A0_2 l0_2.length c0_2, .slice A0_3 l0_3.length c0_3] 50 (0, 0)) (by (with_reducible repeat (first | refine blk_drewN ?_ _ | refine blk_drew ?_ | refine blk_alloc ?_ _)); exact BK265.out) hg (Kd.R_ne HO269.out BK265.out (by decide)))
        have n1_ := Aside0.mk (blk_grown (g := gb266) (o := .cells #[.int .i64 0, .int .i64 0, .slice none 0 0, .slice none 0 0] 50 (0, 0)) (by (with_reducible repeat (first | refine blk_drewN ?_ _ | refine blk_drew ?_ | refine blk_alloc ?_ _)); exact BK266.out) hg (Kd.R_ne HO269.out BK266.out (by decide)))
        have n2_ := Aside0.mk (hb)
        have n3_ := Aside0.mk (ho)
        clear BK265
        clear BK266
        clear HB
        clear HO269
        have BK265 := n0_
        have BK266 := n1_
        have HB := n2_
        have HO272 := n3_
        clear n0_ n1_ n2_ n3_
        clear ho hb hg hat
        obtain ⟨Ao9, co9, eo9⟩ := Kd.R_slice HO272.out
        (first | subst eo9 | (injection eo9 with f1_ f2_ f3_; have f4_ := f1_.symm; have f5_ := f3_.symm; clear f1_ f2_ f3_; subst f4_; subst f5_))
        refine hK.out _ _ ⟨(blk_cell BK265.out 0).trans rfl, (blk_cell BK265.out 1).trans rfl, (blk_cell BK265.out 2).trans rfl, (blk_cell BK265.out 3).trans rfl⟩ (fun hHeld => ?_)
        clear hK K
        refine norm_ (a' := ?_) ?_ ?_
        rotate_left
        · show Act.put _ (some 17) _ = _
          simp only [Act.put, List.setIfInBounds_toArray, List.set_cons_zero, List.set_cons_succ, i64_w, i32_w]
          rfl
        refine pu 8 18 (bt 11 511) HT_.out ?_
        refine one_ (i := 9) (N := some 3) (bt 11 1023) rfl rfl (one_of HT_.out (by kernel_rfl)) (by decide) (fun K hK => ?_)
        refine box_step ?hg (N := 3) ?hd (cs := #[.int .i64 0, .int .i64 0, .slice none 0 0, .slice none 0 0]) (t := 50) ?hr ?_; (case hd => rfl); (case hg => rfl); (case hr => first | (go_simp; done) | (go_simp; rfl))
        intro gb273 hg w10 hbox hb
        have n0_ := Aside0.mk (Kd.R_below (by (with_reducible repeat (first | apply R_alloc | apply R_drewN | apply R_drew)); exact HO272.out) hb)
        have n1_ := Aside0.mk (blk_below (g := gb265) (o := .cells #[.int .i64 a0_0, .int .i64 a0_1, .slice A0_2 l0_2.length c0_2, .slice A0_3 l0_3.length c0_3] 50 (0, 0)) (by (with_reducible repeat (first | refine blk_drewN ?_ _ | refine blk_drew ?_ | refine blk_alloc ?_ _)); exact BK265.out) hb)
        have n2_ := Aside0.mk (blk_below (g := gb266) (o := .cells #[.int .i64 0, .int .i64 0, .slice none 0 0, .slice none 0 0] 50 (0, 0)) (by (with_reducible repeat (first | refine blk_drewN ?_ _ | refine blk_drew ?_ | refine blk_alloc ?_ _)); exact BK266.out) hb)
        have n3_ := Aside0.mk (below_step (by repeat with_reducible first | exact HB.out | apply below_alloc | apply pw_below_drewN | apply below_drew1 | refine below_set ?_ GE265.out | refine below_set ?_ GE266.out) hb)
        have n4_ := Aside0.mk (hbox)
        have n5_ := Aside0.mk ((by rw [hg]; exact (below_size (by repeat with_reducible first | exact HB.out | apply below_alloc | apply pw_below_drewN | apply below_drew1 | refine below_set ?_ GE265.out | refine below_set ?_ GE266.out)) : w.heap.size ≤ gb273))
        have n6_ := Aside0.mk ((by rw [hg]; exact (below_size (by repeat with_reducible first | exact HB.out | apply below_alloc | apply pw_below_drewN | apply below_drew1 | refine below_set ?_ GE265.out | refine below_set ?_ GE266.out)) : w.heap.size ≤ gb273))
        have n7_ := Aside0.mk ((by rw [hg]; exact Nat.ne_of_lt (blk_lt (g := gb265) (o := .cells #[.int .i64 a0_0, .int .i64 a0_1, .slice A0_2 l0_2.length c0_2, .slice A0_3 l0_3.length c0_3] 50 (0, 0)) (by (with_reducible repeat (first | refine blk_drewN ?_ _ | refine blk_drew ?_ | refine blk_alloc ?_ _)); exact BK265.out)) : gb265 ≠ gb273))
        have n8_ := Aside0.mk ((by rw [hg]; exact Nat.ne_of_gt (blk_lt (g := gb265) (o := .cells #[.int .i64 a0_0, .int .i64 a0_1, .slice A0_2 l0_2.length c0_2, .slice A0_3 l0_3.length c0_3] 50 (0, 0)) (by (with_reducible repeat (first | refine blk_drewN ?_ _ | refine blk_drew ?_ | refine blk_alloc ?_ _)); exact BK265.out)) : gb273 ≠ gb265))
        have n9_ := Aside0.mk ((by rw [hg]; exact Nat.ne_of_lt (blk_lt (g := gb266) (o := .cells #[.int .i64 0, .int .i64 0, .slice none 0 0, .slice none 0 0] 50 (0, 0)) (by (with_reducible repeat (first | refine blk_drewN ?_ _ | refine blk_drew ?_ | refine blk_alloc ?_ _)); exact BK266.out)) : gb266 ≠ gb273))
        have n10_ := Aside0.mk ((by rw [hg]; exact Nat.ne_of_gt (blk_lt (g := gb266) (o := .cells #[.int .i64 0, .int .i64 0, .slice none 0 0, .slice none 0 0] 50 (0, 0)) (by (with_reducible repeat (first | refine blk_drewN ?_ _ | refine blk_drew ?_ | refine blk_alloc ?_ _)); exact BK266.out)) : gb273 ≠ gb266))
        clear HO272
        clear BK265
        clear BK266
        clear HB
        have HO272 := n0_
        have BK265 := n1_
        have BK266 := n2_
        have HB := n3_
        have BK273 := n4_
        have GW273 := n5_
        have GE273 := n6_
        have NB265_273 := n7_
        have NB273_265 := n8_
        have NB266_273 := n9_
        have NB273_266 := n10_
        clear n0_ n1_ n2_ n3_ n4_ n5_ n6_ n7_ n8_ n9_ n10_
        clear hb hbox hg
        refine hK.out _ _ ⟨(blk_cell BK265.out 0).trans rfl, (blk_cell BK265.out 1).trans rfl, (blk_cell BK265.out 2).trans rfl, (blk_cell BK265.out 3).trans rfl⟩ (fun hHeld => ?_)
        clear hK K
        refine norm_ (a' := ?_) ?_ ?_
        rotate_left
        · show Act.put _ (some 3) _ = _
          simp only [Act.put, List.setIfInBounds_toArray, List.set_cons_zero, List.set_cons_succ, i64_w, i32_w]
          rfl
        exact norm_ (by simp only [putAll, Act.put, List.setIfInBounds_toArray, List.set_cons_zero, List.set_cons_succ]) (hCont (v268, .slice Ao9 y270.length co9, gb273) _ ⟨hHeld, (by (with_reducible repeat (first | apply R_alloc | apply R_drewN | apply R_drew)); exact HO272.out), (by (with_reducible repeat (first | refine blk_drewN ?_ _ | refine blk_drew ?_ | refine blk_alloc ?_ _)); exact BK265.out), (by (with_reducible repeat (first | refine blk_drewN ?_ _ | refine blk_drew ?_ | refine blk_alloc ?_ _)); exact BK266.out), (by (with_reducible repeat (first | refine blk_drewN ?_ _ | refine blk_drew ?_ | refine blk_alloc ?_ _)); exact BK273.out), GW273.out, GE273.out, NB265_273.out, NB273_265.out, NB266_273.out, NB273_266.out, (by repeat with_reducible first | exact HB.out | apply below_alloc | apply pw_below_drewN | apply below_drew1 | refine below_set ?_ GE265.out | refine below_set ?_ GE266.out | refine below_set ?_ GE273.out)⟩)
      skip
      refine box_step ?hg (N := 3) ?hd (cs := #[.int .i64 0, .int .i64 0, .slice none 0 0, .slice none 0 0]) (t := 50) ?hr ?_; (case hd => rfl); (case hg => rfl); (case hr => first | (go_simp; done) | (go_simp; rfl))
      intro gb273 hg w8 hbox hb
      have n0_ := Aside0.mk (Kd.R_below (by (with_reducible repeat (first | apply R_alloc | apply R_drewN | apply R_drew)); exact HO269.out) hb)
      have n1_ := Aside0.mk (blk_below (g := gb265) (o := .cells #[.int .i64 a0_0, .int .i64 a0_1, .slice A0_2 l0_2.length c0_2, .slice A0_3 l0_3.length c0_3] 50 (0, 0)) (by (with_reducible repeat (first | refine blk_drewN ?_ _ | refine blk_drew ?_ | refine blk_alloc ?_ _)); exact BK265.out) hb)
      have n2_ := Aside0.mk (blk_below (g := gb266) (o := .cells #[.int .i64 0, .int .i64 0, .slice none 0 0, .slice none 0 0] 50 (0, 0)) (by (with_reducible repeat (first | refine blk_drewN ?_ _ | refine blk_drew ?_ | refine blk_alloc ?_ _)); exact BK266.out) hb)
      have n3_ := Aside0.mk (below_step (by repeat with_reducible first | exact HB.out | apply below_alloc | apply pw_below_drewN | apply below_drew1 | refine below_set ?_ GE265.out | refine below_set ?_ GE266.out) hb)
      have n4_ := Aside0.mk (hbox)
      have n5_ := Aside0.mk ((by rw [hg]; exact (below_size (by repeat with_reducible first | exact HB.out | apply below_alloc | apply pw_below_drewN | apply below_drew1 | refine below_set ?_ GE265.out | refine below_set ?_ GE266.out)) : w.heap.size ≤ gb273))
      have n6_ := Aside0.mk ((by rw [hg]; exact (below_size (by repeat with_reducible first | exact HB.out | apply below_alloc | apply pw_below_drewN | apply below_drew1 | refine below_set ?_ GE265.out | refine below_set ?_ GE266.out)) : w.heap.size ≤ gb273))
      have n7_ := Aside0.mk ((by rw [hg]; exact Nat.ne_of_lt (blk_lt (g := gb265) (o := .cells #[.int .i64 a0_0, .int .i64 a0_1, .slice A0_2 l0_2.length c0_2, .slice A0_3 l0_3.length c0_3] 50 (0, 0)) (by (with_reducible repeat (first | refine blk_drewN ?_ _ | refine blk_drew ?_ | refine blk_alloc ?_ _)); exact BK265.out)) : gb265 ≠ gb273))
      have n8_ := Aside0.mk ((by rw [hg]; exact Nat.ne_of_gt (blk_lt (g := gb265) (o := .cells #[.int .i64 a0_0, .int .i64 a0_1, .slice A0_2 l0_2.length c0_2, .slice A0_3 l0_3.length c0_3] 50 (0, 0)) (by (with_reducible repeat (first | refine blk_drewN ?_ _ | refine blk_drew ?_ | refine blk_alloc ?_ _)); exact BK265.out)) : gb273 ≠ gb265))
      have n9_ := Aside0.mk ((by rw [hg]; exact Nat.ne_of_lt (blk_lt (g := gb266) (o := .cells #[.int .i64 0, .int .i64 0, .slice none 0 0, .slice none 0 0] 50 (0, 0)) (by (with_reducible repeat (first | refine blk_drewN ?_ _ | refine blk_drew ?_ | refine blk_alloc ?_ _)); exact BK266.out)) : gb266 ≠ gb273))
      have n10_ := Aside0.mk ((by rw [hg]; exact Nat.ne_of_gt (blk_lt (g := gb266) (o := .cells #[.int .i64 0, .int .i64 0, .slice none 0 0, .slice none 0 0] 50 (0, 0)) (by (with_reducible repeat (first | refine blk_drewN ?_ _ | refine blk_drew ?_ | refine blk_alloc ?_ _)); exact BK266.out)) : gb273 ≠ gb266))
      clear HO269
      clear BK265
      clear BK266
      clear HB
      have HO269 := n0_
      have BK265 := n1_
      have BK266 := n2_
      have HB := n3_
      have BK273 := n4_
      have GW273 := n5_
      have GE273 := n6_
      have NB265_273 := n7_
      have NB273_265 := n8_
      have NB266_273 := n9_
      have NB273_266 := n10_
      clear n0_ n1_ n2_ n3_ n4_ n5_ n6_ n7_ n8_ n9_ n10_
      clear hb hbox hg
      refine hK.out _ _ ⟨(blk_cell BK265.out 0).trans rfl, (blk_cell BK265.out 1).trans rfl, (blk_cell BK265.out 2).trans rfl, (blk_cell BK265.out 3).trans rfl⟩ (fun hHeld => ?_)
      clear hK K
      refine norm_ (a' := ?_) ?_ ?_
      rotate_left
      · show Act.put _ (some 3) _ = _
        simp only [Act.put, List.setIfInBounds_toArray, List.set_cons_zero, List.set_cons_succ, i64_w, i32_w]
        rfl
      refine one_ (i := 7) (N := some 17) (bt 11 767) rfl rfl (one_of HT_.out (by kernel_rfl)) (by decide) (fun K hK => ?_)
      refine Kd.R_append_rows_step (Kd.int .i64) (w0 := w) w.heap.size (by rfl) (.tmp 14) (.tmp 16) 47 3 (.int .i64 0) 8 rfl Tryd.underlying47 info3 rfl (by decide) (by omega) v268 y267 l0_2 _ _ _ (fun _ => True) (fun _ => False) rfl rfl ?aO ?aR (fun _ _ h => h) (fun _ h => h.elim) ?aF ?aB ?aS ?aL ?_
      (case aR => repeat (first | exact (C_below HR0_2.out HB.out) | (with_reducible refine C_alloc ?_ _) | (with_reducible refine C_drewN ?_ _) | (with_reducible refine C_drew ?_)))
      (case aB => exact (by repeat with_reducible first | exact HB.out | apply below_alloc | apply pw_below_drewN | apply below_drew1 | refine below_set ?_ GE265.out | refine below_set ?_ GE266.out | refine below_set ?_ GE273.out))
      (case aF => exact (fun _ _ => trivial))
      (case aO => exact (by (with_reducible repeat (first | apply R_alloc | apply R_drewN | apply R_drew)); exact HO269.out))
      (case aS => exact (below_size (by repeat with_reducible first | exact HB.out | apply below_alloc | apply pw_below_drewN | apply below_drew1 | refine below_set ?_ GE265.out | refine below_set ?_ GE266.out | refine below_set ?_ GE273.out)))
      (case aL => have := LMc2.out; omega)
      intro v271 w9 ho hb hg hat
      rw [← Ny270.out] at ho
      have n0_ := Aside0.mk (blk_grown (g := gb265) (o := .cells #[.int .i64 a0_0, .int .i64 a0_1, .slice A0_2 l0_2.length c0_2, .slice A0_3 l0_3.length c0_3] 50 (0, 0)) (by (with_reducible repeat (first | refine blk_drewN ?_ _ | refine blk_drew ?_ | refine blk_alloc ?_ _)); exact BK265.out) hg (Kd.R_ne HO269.out BK265.out (by decide)))
      have n1_ := Aside0.mk (blk_grown (g := gb266) (o := .cells #[.int .i64 0, .int .i64 0, .slice none 0 0, .slice none 0 0] 50 (0, 0)) (by (with_reducible repeat (first | refine blk_drewN ?_ _ | refine blk_drew ?_ | refine blk_alloc ?_ _)); exact BK266.out) hg (Kd.R_ne HO269.out BK266.out (by decide)))
      have n2_ := Aside0.mk (blk_grown (g := gb273) (o := .cells #[.int .i64 0, .int .i64 0, .slice none 0 0, .slice none 0 0] 50 (0, 0)) (by (with_reducible repeat (first | refine blk_drewN ?_ _ | refine blk_drew ?_ | refine blk_alloc ?_ _)); exact BK273.out) hg (Kd.R_ne HO269.out BK273.out (by decide)))
      have n3_ := Aside0.mk (hb)
      have n4_ := Aside0.mk (ho)
      clear BK265
      clear BK266
      clear BK273
      clear HB
      clear HO269
      have BK265 := n0_
      have BK266 := n1_
      have BK273 := n2_
      have HB := n3_
      have HO272 := n4_
      clear n0_ n1_ n2_ n3_ n4_
      clear ho hb hg hat
      obtain ⟨Ao10, co10, eo10⟩ := Kd.R_slice HO272.out
      (first | subst eo10 | (injection eo10 with f1_ f2_ f3_; have f4_ := f1_.symm; have f5_ := f3_.symm; clear f1_ f2_ f3_; subst f4_; subst f5_))
      refine hK.out _ _ ⟨(blk_cell BK265.out 0).trans rfl, (blk_cell BK265.out 1).trans rfl, (blk_cell BK265.out 2).trans rfl, (blk_cell BK265.out 3).trans rfl⟩ (fun hHeld => ?_)
      clear hK K
      refine norm_ (a' := ?_) ?_ ?_
      rotate_left
      · show Act.put _ (some 17) _ = _
        simp only [Act.put, List.setIfInBounds_toArray, List.set_cons_zero, List.set_cons_succ, i64_w, i32_w]
        rfl
      refine pu 8 18 (bt 11 1023) HT_.out ?_
      exact norm_ (by simp only [putAll, Act.put, List.setIfInBounds_toArray, List.set_cons_zero, List.set_cons_succ]) (hCont (v268, .slice Ao10 y270.length co10, gb273) _ ⟨hHeld, (by (with_reducible repeat (first | apply R_alloc | apply R_drewN | apply R_drew)); exact HO272.out), (by (with_reducible repeat (first | refine blk_drewN ?_ _ | refine blk_drew ?_ | refine blk_alloc ?_ _)); exact BK265.out), (by (with_reducible repeat (first | refine blk_drewN ?_ _ | refine blk_drew ?_ | refine blk_alloc ?_ _)); exact BK266.out), (by (with_reducible repeat (first | refine blk_drewN ?_ _ | refine blk_drew ?_ | refine blk_alloc ?_ _)); exact BK273.out), GW273.out, GE273.out, NB265_273.out, NB273_265.out, NB266_273.out, NB273_266.out, (by repeat with_reducible first | exact HB.out | apply below_alloc | apply pw_below_drewN | apply below_drew1 | refine below_set ?_ GE265.out | refine below_set ?_ GE266.out | refine below_set ?_ GE273.out)⟩)
    skip
    refine box_step ?hg (N := 3) ?hd (cs := #[.int .i64 0, .int .i64 0, .slice none 0 0, .slice none 0 0]) (t := 50) ?hr ?_; (case hd => rfl); (case hg => rfl); (case hr => first | (go_simp; done) | (go_simp; rfl))
    intro gb273 hg w6 hbox hb
    have n0_ := Aside0.mk (blk_below (g := gb265) (o := .cells #[.int .i64 a0_0, .int .i64 a0_1, .slice A0_2 l0_2.length c0_2, .slice A0_3 l0_3.length c0_3] 50 (0, 0)) (by (with_reducible repeat (first | refine blk_drewN ?_ _ | refine blk_drew ?_ | refine blk_alloc ?_ _)); exact BK265.out) hb)
    have n1_ := Aside0.mk (blk_below (g := gb266) (o := .cells #[.int .i64 0, .int .i64 0, .slice none 0 0, .slice none 0 0] 50 (0, 0)) (by (with_reducible repeat (first | refine blk_drewN ?_ _ | refine blk_drew ?_ | refine blk_alloc ?_ _)); exact BK266.out) hb)
    have n2_ := Aside0.mk (below_step (by repeat with_reducible first | exact HB.out | apply below_alloc | apply pw_below_drewN | apply below_drew1 | refine below_set ?_ GE265.out | refine below_set ?_ GE266.out) hb)
    have n3_ := Aside0.mk (hbox)
    have n4_ := Aside0.mk ((by rw [hg]; exact (below_size (by repeat with_reducible first | exact HB.out | apply below_alloc | apply pw_below_drewN | apply below_drew1 | refine below_set ?_ GE265.out | refine below_set ?_ GE266.out)) : w.heap.size ≤ gb273))
    have n5_ := Aside0.mk ((by rw [hg]; exact (below_size (by repeat with_reducible first | exact HB.out | apply below_alloc | apply pw_below_drewN | apply below_drew1 | refine below_set ?_ GE265.out | refine below_set ?_ GE266.out)) : w.heap.size ≤ gb273))
    have n6_ := Aside0.mk ((by rw [hg]; exact Nat.ne_of_lt (blk_lt (g := gb265) (o := .cells #[.int .i64 a0_0, .int .i64 a0_1, .slice A0_2 l0_2.length c0_2, .slice A0_3 l0_3.length c0_3] 50 (0, 0)) (by (with_reducible repeat (first | refine blk_drewN ?_ _ | refine blk_drew ?_ | refine blk_alloc ?_ _)); exact BK265.out)) : gb265 ≠ gb273))
    have n7_ := Aside0.mk ((by rw [hg]; exact Nat.ne_of_gt (blk_lt (g := gb265) (o := .cells #[.int .i64 a0_0, .int .i64 a0_1, .slice A0_2 l0_2.length c0_2, .slice A0_3 l0_3.length c0_3] 50 (0, 0)) (by (with_reducible repeat (first | refine blk_drewN ?_ _ | refine blk_drew ?_ | refine blk_alloc ?_ _)); exact BK265.out)) : gb273 ≠ gb265))
    have n8_ := Aside0.mk ((by rw [hg]; exact Nat.ne_of_lt (blk_lt (g := gb266) (o := .cells #[.int .i64 0, .int .i64 0, .slice none 0 0, .slice none 0 0] 50 (0, 0)) (by (with_reducible repeat (first | refine blk_drewN ?_ _ | refine blk_drew ?_ | refine blk_alloc ?_ _)); exact BK266.out)) : gb266 ≠ gb273))
    have n9_ := Aside0.mk ((by rw [hg]; exact Nat.ne_of_gt (blk_lt (g := gb266) (o := .cells #[.int .i64 0, .int .i64 0, .slice none 0 0, .slice none 0 0] 50 (0, 0)) (by (with_reducible repeat (first | refine blk_drewN ?_ _ | refine blk_drew ?_ | refine blk_alloc ?_ _)); exact BK266.out)) : gb273 ≠ gb266))
    clear BK265
    clear BK266
    clear HB
    have BK265 := n0_
    have BK266 := n1_
    have HB := n2_
    have BK273 := n3_
    have GW273 := n4_
    have GE273 := n5_
    have NB265_273 := n6_
    have NB273_265 := n7_
    have NB266_273 := n8_
    have NB273_266 := n9_
    clear n0_ n1_ n2_ n3_ n4_ n5_ n6_ n7_ n8_ n9_
    clear hb hbox hg
    refine hK.out _ _ ⟨(blk_cell BK265.out 0).trans rfl, (blk_cell BK265.out 1).trans rfl, (blk_cell BK265.out 2).trans rfl, (blk_cell BK265.out 3).trans rfl⟩ (fun hHeld => ?_)
    clear hK K
    refine norm_ (a' := ?_) ?_ ?_
    rotate_left
    · show Act.put _ (some 3) _ = _
      simp only [Act.put, List.setIfInBounds_toArray, List.set_cons_zero, List.set_cons_succ, i64_w, i32_w]
      rfl
    refine one_ (i := 4) (N := some 14) (bt 11 639) rfl rfl (one_of HT_.out (by kernel_rfl)) (by decide) (fun K hK => ?_)
    refine Kd.R_lit_step (Kd.int .i64) _ 3 ?hg (N := 14) ?hd (xs := ([] : List Int)) (inner := []) (ok := fun _ => True) (okp := fun _ => True) ?hr ?hp (fun _ hk => hk) trivial (Below.refl _ _) (Nat.le_refl _) (by simp) ?_; (case hd => rfl); (case hg => rfl); (case hr => first | (go_simp; done) | (go_simp; rfl)); (case hp => exact (Reps.none _ _))
    intro v268 w7 ho8 hb hg_ hnew_
    clear hg_ hnew_
    rw [← Ny267.out] at ho8
    have n0_ := Aside0.mk (Kd.R_lower ho8 (below_size (by repeat with_reducible first | exact HB.out | apply below_alloc | apply pw_below_drewN | apply below_drew1 | refine below_set ?_ GE265.out | refine below_set ?_ GE266.out | refine below_set ?_ GE273.out)))
    have n1_ := Aside0.mk (blk_below (g := gb265) (o := .cells #[.int .i64 a0_0, .int .i64 a0_1, .slice A0_2 l0_2.length c0_2, .slice A0_3 l0_3.length c0_3] 50 (0, 0)) (by (with_reducible repeat (first | refine blk_drewN ?_ _ | refine blk_drew ?_ | refine blk_alloc ?_ _)); exact BK265.out) hb)
    have n2_ := Aside0.mk (blk_below (g := gb266) (o := .cells #[.int .i64 0, .int .i64 0, .slice none 0 0, .slice none 0 0] 50 (0, 0)) (by (with_reducible repeat (first | refine blk_drewN ?_ _ | refine blk_drew ?_ | refine blk_alloc ?_ _)); exact BK266.out) hb)
    have n3_ := Aside0.mk (blk_below (g := gb273) (o := .cells #[.int .i64 0, .int .i64 0, .slice none 0 0, .slice none 0 0] 50 (0, 0)) (by (with_reducible repeat (first | refine blk_drewN ?_ _ | refine blk_drew ?_ | refine blk_alloc ?_ _)); exact BK273.out) hb)
    have n4_ := Aside0.mk (below_step (by repeat with_reducible first | exact HB.out | apply below_alloc | apply pw_below_drewN | apply below_drew1 | refine below_set ?_ GE265.out | refine below_set ?_ GE266.out | refine below_set ?_ GE273.out) hb)
    clear BK265
    clear BK266
    clear BK273
    clear HB
    have HO269 := n0_
    have BK265 := n1_
    have BK266 := n2_
    have BK273 := n3_
    have HB := n4_
    clear n0_ n1_ n2_ n3_ n4_
    clear hb ho8
    refine hK.out _ _ ⟨(blk_cell BK265.out 0).trans rfl, (blk_cell BK265.out 1).trans rfl, (blk_cell BK265.out 2).trans rfl, (blk_cell BK265.out 3).trans rfl⟩ (fun hHeld => ?_)
    clear hK K
    refine norm_ (a' := ?_) ?_ ?_
    rotate_left
    · show Act.put _ (some 14) _ = _
      simp only [Act.put, List.setIfInBounds_toArray, List.set_cons_zero, List.set_cons_succ, i64_w, i32_w]
      rfl
    refine one_ (i := 7) (N := some 17) (bt 11 767) rfl rfl (one_of HT_.out (by kernel_rfl)) (by decide) (fun K hK => ?_)
    refine Kd.R_append_rows_step (Kd.int .i64) (w0 := w) w.heap.size (by rfl) (.tmp 14) (.tmp 16) 47 3 (.int .i64 0) 8 rfl Tryd.underlying47 info3 rfl (by decide) (by omega) v268 y267 l0_2 _ _ _ (fun _ => True) (fun _ => False) rfl rfl ?aO ?aR (fun _ _ h => h) (fun _ h => h.elim) ?aF ?aB ?aS ?aL ?_
    (case aR => repeat (first | exact (C_below HR0_2.out HB.out) | (with_reducible refine C_alloc ?_ _) | (with_reducible refine C_drewN ?_ _) | (with_reducible refine C_drew ?_)))
    (case aB => exact (by repeat with_reducible first | exact HB.out | apply below_alloc | apply pw_below_drewN | apply below_drew1 | refine below_set ?_ GE265.out | refine below_set ?_ GE266.out | refine below_set ?_ GE273.out))
    (case aF => exact (fun _ _ => trivial))
    (case aO => exact (by (with_reducible repeat (first | apply R_alloc | apply R_drewN | apply R_drew)); exact HO269.out))
    (case aS => exact (below_size (by repeat with_reducible first | exact HB.out | apply below_alloc | apply pw_below_drewN | apply below_drew1 | refine below_set ?_ GE265.out | refine below_set ?_ GE266.out | refine below_set ?_ GE273.out)))
    (case aL => have := LMc2.out; omega)
    intro v271 w9 ho hb hg hat
    rw [← Ny270.out] at ho
    have n0_ := Aside0.mk (blk_grown (g := gb265) (o := .cells #[.int .i64 a0_0, .int .i64 a0_1, .slice A0_2 l0_2.length c0_2, .slice A0_3 l0_3.length c0_3] 50 (0, 0)) (by (with_reducible repeat (first | refine blk_drewN ?_ _ | refine blk_drew ?_ | refine blk_alloc ?_ _)); exact BK265.out) hg (Kd.R_ne HO269.out BK265.out (by decide)))
    have n1_ := Aside0.mk (blk_grown (g := gb266) (o := .cells #[.int .i64 0, .int .i64 0, .slice none 0 0, .slice none 0 0] 50 (0, 0)) (by (with_reducible repeat (first | refine blk_drewN ?_ _ | refine blk_drew ?_ | refine blk_alloc ?_ _)); exact BK266.out) hg (Kd.R_ne HO269.out BK266.out (by decide)))
    have n2_ := Aside0.mk (blk_grown (g := gb273) (o := .cells #[.int .i64 0, .int .i64 0, .slice none 0 0, .slice none 0 0] 50 (0, 0)) (by (with_reducible repeat (first | refine blk_drewN ?_ _ | refine blk_drew ?_ | refine blk_alloc ?_ _)); exact BK273.out) hg (Kd.R_ne HO269.out BK273.out (by decide)))
    have n3_ := Aside0.mk (hb)
    have n4_ := Aside0.mk (ho)
    clear BK265
    clear BK266
    clear BK273
    clear HB
    clear HO269
    have BK265 := n0_
    have BK266 := n1_
    have BK273 := n2_
    have HB := n3_
    have HO272 := n4_
    clear n0_ n1_ n2_ n3_ n4_
    clear ho hb hg hat
    obtain ⟨Ao10, co10, eo10⟩ := Kd.R_slice HO272.out
    (first | subst eo10 | (injection eo10 with f1_ f2_ f3_; have f4_ := f1_.symm; have f5_ := f3_.symm; clear f1_ f2_ f3_; subst f4_; subst f5_))
    refine hK.out _ _ ⟨(blk_cell BK265.out 0).trans rfl, (blk_cell BK265.out 1).trans rfl, (blk_cell BK265.out 2).trans rfl, (blk_cell BK265.out 3).trans rfl⟩ (fun hHeld => ?_)
    clear hK K
    refine norm_ (a' := ?_) ?_ ?_
    rotate_left
    · show Act.put _ (some 17) _ = _
      simp only [Act.put, List.setIfInBounds_toArray, List.set_cons_zero, List.set_cons_succ, i64_w, i32_w]
      rfl
    refine pu 8 18 (bt 11 1023) HT_.out ?_
    exact norm_ (by simp only [putAll, Act.put, List.setIfInBounds_toArray, List.set_cons_zero, List.set_cons_succ]) (hCont (v268, .slice Ao10 y270.length co10, gb273) _ ⟨hHeld, (by (with_reducible repeat (first | apply R_alloc | apply R_drewN | apply R_drew)); exact HO272.out), (by (with_reducible repeat (first | refine blk_drewN ?_ _ | refine blk_drew ?_ | refine blk_alloc ?_ _)); exact BK265.out), (by (with_reducible repeat (first | refine blk_drewN ?_ _ | refine blk_drew ?_ | refine blk_alloc ?_ _)); exact BK266.out), (by (with_reducible repeat (first | refine blk_drewN ?_ _ | refine blk_drew ?_ | refine blk_alloc ?_ _)); exact BK273.out), GW273.out, GE273.out, NB265_273.out, NB273_265.out, NB266_273.out, NB273_266.out, (by repeat with_reducible first | exact HB.out | apply below_alloc | apply pw_below_drewN | apply below_drew1 | refine below_set ?_ GE265.out | refine below_set ?_ GE266.out | refine below_set ?_ GE273.out)⟩)
  rintro ⟨v268, v271, gb273⟩ w11 ⟨hS_, h0_, h1_, h2_, h3_, h4_, h5_, h6_, h7_, h8_, h9_, h10_⟩
  have n0_ : Aside0 (Kd.R (Kd.int .i64) 3 w11 w.heap.size (fun _ => True) v271 y270) := ⟨h0_⟩
  have n1_ : Aside0 (w11.heap[gb265]? = some (.cells #[.int .i64 a0_0, .int .i64 a0_1, .slice A0_2 l0_2.length c0_2, .slice A0_3 l0_3.length c0_3] 50 (0, 0))) := ⟨h1_⟩
  have n2_ : Aside0 (w11.heap[gb266]? = some (.cells #[.int .i64 0, .int .i64 0, .slice none 0 0, .slice none 0 0] 50 (0, 0))) := ⟨h2_⟩
  have n3_ : Aside0 (w11.heap[gb273]? = some (.cells #[.int .i64 0, .int .i64 0, .slice none 0 0, .slice none 0 0] 50 (0, 0))) := ⟨h3_⟩
  have n4_ : Aside0 (w.heap.size ≤ gb273) := ⟨h4_⟩
  have n5_ : Aside0 (w.heap.size ≤ gb273) := ⟨h5_⟩
  have n6_ : Aside0 (gb265 ≠ gb273) := ⟨h6_⟩
  have n7_ : Aside0 (gb273 ≠ gb265) := ⟨h7_⟩
  have n8_ : Aside0 (gb266 ≠ gb273) := ⟨h8_⟩
  have n9_ : Aside0 (gb273 ≠ gb266) := ⟨h9_⟩
  have n10_ : Aside0 (Below w.heap.size w w11) := ⟨h10_⟩
  clear BK265
  clear BK266
  clear HB
  clear h0_ h1_ h2_ h3_ h4_ h5_ h6_ h7_ h8_ h9_ h10_
  have HO272 := n0_
  have BK265 := n1_
  have BK266 := n2_
  have BK273 := n3_
  have GW273 := n4_
  have GE273 := n5_
  have NB265_273 := n6_
  have NB273_265 := n7_
  have NB266_273 := n8_
  have NB273_266 := n9_
  have HB := n10_
  clear n0_ n1_ n2_ n3_ n4_ n5_ n6_ n7_ n8_ n9_ n10_
  have hHeld : w11.cell? ⟨gb265, 0, none⟩ = some (.int .i64 a0_0) ∧ w11.cell? ⟨gb265, 1, none⟩ = some (.int .i64 a0_1) ∧ w11.cell? ⟨gb265, 2, none⟩ = some (.slice A0_2 l0_2.length c0_2) ∧ w11.cell? ⟨gb265, 3, none⟩ = some (.slice A0_3 l0_3.length c0_3) := hS_
  obtain ⟨Ao12, co12, eo12⟩ := Kd.R_slice HO272.out
  (first | subst eo12 | (injection eo12 with f1_ f2_ f3_; have f4_ := f1_.symm; have f5_ := f3_.symm; clear f1_ f2_ f3_; subst f4_; subst f5_))
  refine norm_ (a' := ?_) ?_ ?_
  rotate_left
  · simp only [putAll, Act.put, List.setIfInBounds_toArray, List.set_cons_zero, List.set_cons_succ]
    rfl
  refine one_ (i := 10) (N := none) (bt 11 2047) rfl rfl (one_of HT_.out (by kernel_rfl)) (by decide) (fun K hK => ?_)
  have hs13 : w11.cell? ⟨gb273, 0, none⟩ = some (.int .i64 0) := (blk_cell BK273.out 0).trans rfl
  have hfs13 := blk_frozen BK273.out 0
  have hns13_0 := NB265_273.out
  have hns13_1 := NB266_273.out
  have hms13_0 := NB273_265.out
  have hms13_1 := NB273_266.out
  have hs14 : w11.cell? ⟨gb273, 1, none⟩ = some (.int .i64 0) := (blk_cell BK273.out 1).trans rfl
  have hfs14 := blk_frozen BK273.out 1
  have hns14_0 := NB265_273.out
  have hns14_1 := NB266_273.out
  have hms14_0 := NB273_265.out
  have hms14_1 := NB273_266.out
  have hs15 : w11.cell? ⟨gb273, 2, none⟩ = some (.slice none 0 0) := (blk_cell BK273.out 2).trans rfl
  have hfs15 := blk_frozen BK273.out 2
  have hns15_0 := NB265_273.out
  have hns15_1 := NB266_273.out
  have hms15_0 := NB273_265.out
  have hms15_1 := NB273_266.out
  have hs16 : w11.cell? ⟨gb273, 3, none⟩ = some (.slice none 0 0) := (blk_cell BK273.out 3).trans rfl
  have hfs16 := blk_frozen BK273.out 3
  have hns16_0 := NB265_273.out
  have hns16_1 := NB266_273.out
  have hms16_0 := NB273_265.out
  have hms16_1 := NB273_266.out
  refine skip_ (w1 := ?_) (by rfl) rfl ?_ ?_
  rotate_left
  · go_simp
    rfl
  refine hK.out _ _ ⟨((cell_far (p := ⟨gb273, _, none⟩) NB265_273.out _).trans (((cell_far (p := ⟨gb273, _, none⟩) NB265_273.out _).trans (((cell_far (p := ⟨gb273, _, none⟩) NB265_273.out _).trans (((cell_far (p := ⟨gb273, _, none⟩) NB265_273.out _).trans (hHeld.1)))))))), ((cell_far (p := ⟨gb273, _, none⟩) NB265_273.out _).trans (((cell_far (p := ⟨gb273, _, none⟩) NB265_273.out _).trans (((cell_far (p := ⟨gb273, _, none⟩) NB265_273.out _).trans (((cell_far (p := ⟨gb273, _, none⟩) NB265_273.out _).trans (hHeld.2.1)))))))), ((cell_far (p := ⟨gb273, _, none⟩) NB265_273.out _).trans (((cell_far (p := ⟨gb273, _, none⟩) NB265_273.out _).trans (((cell_far (p := ⟨gb273, _, none⟩) NB265_273.out _).trans (((cell_far (p := ⟨gb273, _, none⟩) NB265_273.out _).trans (hHeld.2.2.1)))))))), ((cell_far (p := ⟨gb273, _, none⟩) NB265_273.out _).trans (((cell_far (p := ⟨gb273, _, none⟩) NB265_273.out _).trans (((cell_far (p := ⟨gb273, _, none⟩) NB265_273.out _).trans (((cell_far (p := ⟨gb273, _, none⟩) NB265_273.out _).trans (hHeld.2.2.2))))))))⟩ (fun hHeld => ?_)
  clear hK K
  refine done_ (done_of HT_.out (by kernel_rfl)) ?_
  try go_wp2
  go_loopg [4] k (fun kq v4 w' => ∃ (x4_1 : Int) (x274003_1 : List (S56)) (u274003 : Value), v4 = .int .i64 x4_1 ∧ Aside0 (fettleref02_CopyFunc.l0 kq x4_1 a0_0 a0_1 l0_2 l0_3 a0_0 a0_1 y270 x274003_1 = some (r1, r2, r3, r4)) ∧ Aside0 (kq ≤ k) ∧ Aside0 (Kd.R (Kd.int .i64) 3 w' w.heap.size (fun _ => True) (.slice Ao12 y270.length co12) y270) ∧ Aside0 (Kd.R k56 56 w' w.heap.size (fun k_ => some k_ ≠ ((.slice Ao12 y270.length co12) : Value).ownBlock) u274003 x274003_1) ∧ Aside0 (w'.heap[gb265]? = some (.cells #[.int .i64 a0_0, .int .i64 a0_1, (.slice A0_2 l0_2.length c0_2), (.slice A0_3 l0_3.length c0_3)] 50 (0, 0))) ∧ Aside0 (w'.heap[gb266]? = some (.cells #[.int .i64 0, .int .i64 0, (.slice none 0 0), (.slice none 0 0)] 50 (0, 0))) ∧ Aside0 (w'.heap[gb273]? = some (.cells #[.int .i64 a0_0, .int .i64 a0_1, (.slice Ao12 y270.length co12), u274003] 50 (0, 0))) ∧ Aside0 (Below w.heap.size w w'))
  case atStart => exact ⟨(0), (([] : List (S56))), (.slice none 0 0), (by first | rfl | (simp; done) | (simp [*]; done)), H', ⟨Nat.le_refl _⟩, ⟨by (with_reducible repeat (first | apply R_alloc | apply R_drewN | apply R_drew)); exact R_mono (Kd.R_far (p := ⟨gb273, 3, none⟩) (Kd.R_far (p := ⟨gb273, 2, none⟩) (Kd.R_far (p := ⟨gb273, 1, none⟩) (Kd.R_far (p := ⟨gb273, 0, none⟩) (Kd.R_types HO272.out BK273.out (by decide)) (fun _ hk => hk.2) (.int .i64 a0_0)) (fun _ hk => hk.2) (.int .i64 a0_1)) (fun _ hk => hk.2) (.slice Ao12 y270.length co12)) (fun _ hk => hk.2) (.slice none 0 0)) (fun _ hk => trivial)⟩, ⟨by first | exact Kd.R_nil _ _ _ _ _ | exact Kd.N_nil _ _ _ _ _ | exact Kd.V_nil _ _ _ _ _ | exact Kd.Q_nil _ _ _ _ _ | exact Kd.S_nil _ _ _ _ _⟩, ⟨by (with_reducible repeat (first | refine blk_drewN ?_ _ | refine blk_drew ?_ | refine blk_alloc ?_ _)); refine blk_far ?_ NB265_273.out _; (with_reducible repeat (first | refine blk_drewN ?_ _ | refine blk_drew ?_ | refine blk_alloc ?_ _)); refine blk_far ?_ NB265_273.out _; (with_reducible repeat (first | refine blk_drewN ?_ _ | refine blk_drew ?_ | refine blk_alloc ?_ _)); refine blk_far ?_ NB265_273.out _; (with_reducible repeat (first | refine blk_drewN ?_ _ | refine blk_drew ?_ | refine blk_alloc ?_ _)); refine blk_far ?_ NB265_273.out _; (with_reducible repeat (first | refine blk_drewN ?_ _ | refine blk_drew ?_ | refine blk_alloc ?_ _)); exact BK265.out⟩, ⟨by (with_reducible repeat (first | refine blk_drewN ?_ _ | refine blk_drew ?_ | refine blk_alloc ?_ _)); refine blk_far ?_ NB266_273.out _; (with_reducible repeat (first | refine blk_drewN ?_ _ | refine blk_drew ?_ | refine blk_alloc ?_ _)); refine blk_far ?_ NB266_273.out _; (with_reducible repeat (first | refine blk_drewN ?_ _ | refine blk_drew ?_ | refine blk_alloc ?_ _)); refine blk_far ?_ NB266_273.out _; (with_reducible repeat (first | refine blk_drewN ?_ _ | refine blk_drew ?_ | refine blk_alloc ?_ _)); refine blk_far ?_ NB266_273.out _; (with_reducible repeat (first | refine blk_drewN ?_ _ | refine blk_drew ?_ | refine blk_alloc ?_ _)); exact BK266.out⟩, ⟨by (with_reducible repeat (first | refine blk_drewN ?_ _ | refine blk_drew ?_ | refine blk_alloc ?_ _)); refine blk_put (cs := #[.int .i64 a0_0, .int .i64 a0_1, .slice Ao12 y270.length co12, .slice none 0 0]) ?_ 3 _ rfl; (with_reducible repeat (first | refine blk_drewN ?_ _ | refine blk_drew ?_ | refine blk_alloc ?_ _)); refine blk_put (cs := #[.int .i64 a0_0, .int .i64 a0_1, .slice none 0 0, .slice none 0 0]) ?_ 2 _ rfl; (with_reducible repeat (first | refine blk_drewN ?_ _ | refine blk_drew ?_ | refine blk_alloc ?_ _)); refine blk_put (cs := #[.int .i64 a0_0, .int .i64 0, .slice none 0 0, .slice none 0 0]) ?_ 1 _ rfl; (with_reducible repeat (first | refine blk_drewN ?_ _ | refine blk_drew ?_ | refine blk_alloc ?_ _)); refine blk_put (cs := #[.int .i64 0, .int .i64 0, .slice none 0 0, .slice none 0 0]) ?_ 0 _ rfl; (with_reducible repeat (first | refine blk_drewN ?_ _ | refine blk_drew ?_ | refine blk_alloc ?_ _)); exact BK273.out⟩, ⟨by repeat (first | (with_reducible first | exact HB.out | apply below_alloc | apply pw_below_drewN | apply below_drew1 | refine below_set ?_ GE265.out | refine below_set ?_ GE266.out | refine below_set ?_ GE273.out) | exact HB.out)⟩⟩
  clear H'
  try clear c2
  try clear p2
  try clear c3
  obtain ⟨x4_1, x274003_1, u274003, rfl, HA, HK1, HO_274002, HO_274003, BK265, BK266, BK273, HB⟩ := hrel
  rcases gk with _ | k1
  · exact absurd HA.out (by simp [fettleref02_CopyFunc.l0])
  have H := HA.out
  clear HA
  simp only [fettleref02_CopyFunc.l0] at H
  by_cases c17 : x4_1 < (l0_3.length : Int)
  · rw [if_pos c17] at H
    have c17b0 : decide (x4_1 < (l0_3.length : Int)) = true := decide_eq_true c17
    clear c17
    by_cases c18 : 0 ≤ x4_1
    rotate_left
    · rw [if_neg c18] at H
      exact absurd H (by simp)
    rw [if_pos c18] at H
    have c18b0 : decide (0 ≤ x4_1) = true := decide_eq_true c18
    clear c18
    obtain ⟨y276, hy276⟩ : ∃ y_ : List Int, y_ = (([] : List Int)) := ⟨_, rfl⟩
    replace H : (if y276.length + ((rd_T56 l0_3 x4_1).f2.f2).length < 17592186044416 then (fettleref02_CopyFunc.l1 k1 x4_1 0 a0_0 a0_1 l0_2 l0_3 a0_0 a0_1 y270 x274003_1 ((rd_T56 l0_3 x4_1).f0) ((rd_T56 l0_3 x4_1).f1) ((rd_T56 l0_3 x4_1).f2.f0) ((rd_T56 l0_3 x4_1).f2.f1) ((rd_T56 l0_3 x4_1).f2.f2) ([] : List (S60)) ((rd_T56 l0_3 x4_1).f2.f0) ((rd_T56 l0_3 x4_1).f2.f1) (y276 ++ ((rd_T56 l0_3 x4_1).f2.f2))) else (none)) = some (r1, r2, r3, r4) := by first | (rw [hy276]; with_reducible exact H) | (have H2_ := (Option.bind_some _ _).symm.trans H; rw [hy276]; with_reducible exact H2_) | exact H
    have Ny276 := Aside0.mk hy276
    clear hy276
    by_cases c19 : y276.length + ((rd_T56 l0_3 x4_1).f2.f2).length < 17592186044416
    rotate_left
    · rw [if_neg c19] at H
      exact absurd H (by simp)
    rw [if_pos c19] at H
    have LMc19 := Aside0.mk c19
    clear c19
    obtain ⟨y279, hy279⟩ : ∃ y_ : List Int, y_ = (y276 ++ ((rd_T56 l0_3 x4_1).f2.f2)) := ⟨_, rfl⟩
    replace H : (fettleref02_CopyFunc.l1 k1 x4_1 0 a0_0 a0_1 l0_2 l0_3 a0_0 a0_1 y270 x274003_1 ((rd_T56 l0_3 x4_1).f0) ((rd_T56 l0_3 x4_1).f1) ((rd_T56 l0_3 x4_1).f2.f0) ((rd_T56 l0_3 x4_1).f2.f1) ((rd_T56 l0_3 x4_1).f2.f2) ([] : List (S60)) ((rd_T56 l0_3 x4_1).f2.f0) ((rd_T56 l0_3 x4_1).f2.f1) y279) = some (r1, r2, r3, r4) := by first | (rw [hy279]; with_reducible exact H) | (have H2_ := (Option.bind_some _ _).symm.trans H; rw [hy279]; with_reducible exact H2_) | exact H
    have Ny279 := Aside0.mk hy279
    clear hy279
    have H' := Aside0.mk H
    clear H
    have hnb20 := NB265_266.out
    have hnc20 := NB266_265.out
    have hnb21 := NB265_273.out
    have hnc21 := NB273_265.out
    have hcz22_0 : wr.cell? ⟨gb265, 0, none⟩ = some (.int .i64 a0_0) := (blk_cell BK265.out 0).trans rfl
    have hcz22_1 : wr.cell? ⟨gb265, 1, none⟩ = some (.int .i64 a0_1) := (blk_cell BK265.out 1).trans rfl
    have hcz22_2 : wr.cell? ⟨gb265, 2, none⟩ = some (.slice A0_2 l0_2.length c0_2) := (blk_cell BK265.out 2).trans rfl
    have hcz22_3 : wr.cell? ⟨gb265, 3, none⟩ = some (.slice A0_3 l0_3.length c0_3) := (blk_cell BK265.out 3).trans rfl
    have hfz22_0 := blk_frozen BK265.out 0
    have hfz22_1 := blk_frozen BK265.out 1
    have hfz22_2 := blk_frozen BK265.out 2
    have hfz22_3 := blk_frozen BK265.out 3
    have p274 : 0 ≤ (x4_1 : Int) := of_decide_eq_true (by with_reducible assumption)
    have q274 : x4_1 < (l0_3.length : Int) := of_decide_eq_true (by with_reducible assumption)
    obtain ⟨ad274, A274_0, c274_0, A274_1, c274_1, A274_4, c274_4, e274, hx274_0, hx274_1, hx274_2, hx274_3, hx274_4, hl274_0, hi274_0, hl274_1, hi274_1, hl274_4, hi274_4⟩ := at_T56 HR0_3.out x4_1 p274 q274
    cases e274
    replace hx274_0 := (HB.out.cell (World.block_lt_of_cell? w _ hx274_0)).trans hx274_0
    replace hx274_1 := (HB.out.cell (World.block_lt_of_cell? w _ hx274_1)).trans hx274_1
    replace hx274_2 := (HB.out.cell (World.block_lt_of_cell? w _ hx274_2)).trans hx274_2
    replace hx274_3 := (HB.out.cell (World.block_lt_of_cell? w _ hx274_3)).trans hx274_3
    replace hx274_4 := (HB.out.cell (World.block_lt_of_cell? w _ hx274_4)).trans hx274_4
    have HR274_0 := Aside0.mk hi274_0
    have HC274_0 := Aside0.mk hl274_0
    clear hi274_0 hl274_0
    have HR274_1 := Aside0.mk hi274_1
    have HC274_1 := Aside0.mk hl274_1
    clear hi274_1 hl274_1
    have HR274_4 := Aside0.mk hi274_4
    have HC274_4 := Aside0.mk hl274_4
    clear hi274_4 hl274_4
    replace p274 := eq_true p274
    replace q274 := eq_true q274
    try go_wp2_with (first | ((with_reducible refine gate_dst (N := 5) rfl ?_); refine box_event ?hg (N := 5) ?hd (cs := #[.slice none 0 0, .slice none 0 0, .int .i64 0, .int .i64 0, .slice none 0 0]) (t := 56) ?hr ?_; (case hd => rfl); (case hg => rfl); (case hr => first | (go_simp; done) | (go_simp; rfl)); intro gb275 hg w23 hbox hb; have n0_ := Aside0.mk (Kd.R_below (by (with_reducible repeat (first | apply R_alloc | apply R_drewN | apply R_drew)); exact HO_274002.out) hb); have n1_ := Aside0.mk (Kd.R_below (Kd.R_elderB (by (with_reducible repeat (first | apply R_alloc | apply R_drewN | apply R_drew)); exact HO_274003.out) gb275 (Nat.le_of_eq hg.symm)) hb); have n2_ := Aside0.mk (blk_below (g := gb265) (o := .cells #[.int .i64 a0_0, .int .i64 a0_1, .slice A0_2 l0_2.length c0_2, .slice (some ad274) l0_3.length c0_3] 50 (0, 0)) (by (with_reducible repeat (first | refine blk_drewN ?_ _ | refine blk_drew ?_ | refine blk_alloc ?_ _)); exact BK265.out) hb); have n3_ := Aside0.mk (blk_below (g := gb266) (o := .cells #[.int .i64 0, .int .i64 0, .slice none 0 0, .slice none 0 0] 50 (0, 0)) (by (with_reducible repeat (first | refine blk_drewN ?_ _ | refine blk_drew ?_ | refine blk_alloc ?_ _)); exact BK266.out) hb); have n4_ := Aside0.mk (blk_below (g := gb273) (o := .cells #[.int .i64 a0_0, .int .i64 a0_1, .slice Ao12 y270.length co12, u274003] 50 (0, 0)) (by (with_reducible repeat (first | refine blk_drewN ?_ _ | refine blk_drew ?_ | refine blk_alloc ?_ _)); exact BK273.out) hb); have n5_ := Aside0.mk (below_step (by repeat with_reducible first | exact HB.out | apply below_alloc | apply pw_below_drewN | apply below_drew1 | refine below_set ?_ GE265.out | refine below_set ?_ GE266.out | refine below_set ?_ GE273.out) hb); have n6_ := Aside0.mk (hbox); have n7_ := Aside0.mk ((by rw [hg]; exact (below_size (by repeat with_reducible first | exact HB.out | apply below_alloc | apply pw_below_drewN | apply below_drew1 | refine below_set ?_ GE265.out | refine below_set ?_ GE266.out | refine below_set ?_ GE273.out)) : w.heap.size ≤ gb275)); have n8_ := Aside0.mk ((by rw [hg]; exact (below_size (by repeat with_reducible first | exact HB.out | apply below_alloc | apply pw_below_drewN | apply below_drew1 | refine below_set ?_ GE265.out | refine below_set ?_ GE266.out | refine below_set ?_ GE273.out)) : w.heap.size ≤ gb275)); have n9_ := Aside0.mk ((by rw [hg]; exact Nat.ne_of_lt (blk_lt (g := gb265) (o := .cells #[.int .i64 a0_0, .int .i64 a0_1, .slice A0_2 l0_2.length c0_2, .slice (some ad274) l0_3.length c0_3] 50 (0, 0)) (by (with_reducible repeat (first | refine blk_drewN ?_ _ | refine blk_drew ?_ | refine blk_alloc ?_ _)); exact BK265.out)) : gb265 ≠ gb275)); have n10_ := Aside0.mk ((by rw [hg]; exact Nat.ne_of_gt (blk_lt (g := gb265) (o := .cells #[.int .i64 a0_0, .int .i64 a0_1, .slice A0_2 l0_2.length c0_2, .slice (some ad274) l0_3.length c0_3] 50 (0, 0)) (by (with_reducible repeat (first | refine blk_drewN ?_ _ | refine blk_drew ?_ | refine blk_alloc ?_ _)); exact BK265.out)) : gb275 ≠ gb265)); have n11_ := Aside0.mk ((by rw [hg]; exact Nat.ne_of_lt (blk_lt (g := gb266) (o := .cells #[.int .i64 0, .int .i64 0, .slice none 0 0, .slice none 0 0] 50 (0, 0)) (by (with_reducible repeat (first | refine blk_drewN ?_ _ | refine blk_drew ?_ | refine blk_alloc ?_ _)); exact BK266.out)) : gb266 ≠ gb275)); have n12_ := Aside0.mk ((by rw [hg]; exact Nat.ne_of_gt (blk_lt (g := gb266) (o := .cells #[.int .i64 0, .int .i64 0, .slice none 0 0, .slice none 0 0] 50 (0, 0)) (by (with_reducible repeat (first | refine blk_drewN ?_ _ | refine blk_drew ?_ | refine blk_alloc ?_ _)); exact BK266.out)) : gb275 ≠ gb266)); have n13_ := Aside0.mk ((by rw [hg]; exact Nat.ne_of_lt (blk_lt (g := gb273) (o := .cells #[.int .i64 a0_0, .int .i64 a0_1, .slice Ao12 y270.length co12, u274003] 50 (0, 0)) (by (with_reducible repeat (first | refine blk_drewN ?_ _ | refine blk_drew ?_ | refine blk_alloc ?_ _)); exact BK273.out)) : gb273 ≠ gb275)); have n14_ := Aside0.mk ((by rw [hg]; exact Nat.ne_of_gt (blk_lt (g := gb273) (o := .cells #[.int .i64 a0_0, .int .i64 a0_1, .slice Ao12 y270.length co12, u274003] 50 (0, 0)) (by (with_reducible repeat (first | refine blk_drewN ?_ _ | refine blk_drew ?_ | refine blk_alloc ?_ _)); exact BK273.out)) : gb275 ≠ gb273)); clear HO_274002; clear HO_274003; clear BK265; clear BK266; clear BK273; clear HB; have HO_274002 := n0_; have HO_274003 := n1_; have BK265 := n2_; have BK266 := n3_; have BK273 := n4_; have HB := n5_; have BK275 := n6_; have GW275 := n7_; have GE275 := n8_; have NB265_275 := n9_; have NB275_265 := n10_; have NB266_275 := n11_; have NB275_266 := n12_; have NB273_275 := n13_; have NB275_273 := n14_; clear n0_ n1_ n2_ n3_ n4_ n5_ n6_ n7_ n8_ n9_ n10_ n11_ n12_ n13_ n14_; clear hb hbox hg; have hnb24 := NB275_265.out; have hnc24 := NB265_275.out; have hnb25 := NB275_266.out; have hnc25 := NB266_275.out; have hnb26 := NB275_273.out; have hnc26 := NB273_275.out; have hcz27_0 : w23.cell? ⟨gb275, 0, none⟩ = some (.slice none 0 0) := (blk_cell BK275.out 0).trans rfl; have hcz27_1 : w23.cell? ⟨gb275, 1, none⟩ = some (.slice none 0 0) := (blk_cell BK275.out 1).trans rfl; have hcz27_2 : w23.cell? ⟨gb275, 2, none⟩ = some (.int .i64 0) := (blk_cell BK275.out 2).trans rfl; have hcz27_3 : w23.cell? ⟨gb275, 3, none⟩ = some (.int .i64 0) := (blk_cell BK275.out 3).trans rfl; have hcz27_4 : w23.cell? ⟨gb275, 4, none⟩ = some (.slice none 0 0) := (blk_cell BK275.out 4).trans rfl; have hfz27_0 := blk_frozen BK275.out 0; have hfz27_1 := blk_frozen BK275.out 1; have hfz27_2 := blk_frozen BK275.out 2; have hfz27_3 := blk_frozen BK275.out 3; have hfz27_4 := blk_frozen BK275.out 4))
    have n0_ : Aside0 (Kd.R (Kd.int .i64) 3 (((((w23.setCell ⟨gb275, 0, none⟩ (.slice A274_0 ((rd_T56 l0_3 x4_1).f0).length c274_0)).setCell ⟨gb275, 1, none⟩ (.slice A274_1 ((rd_T56 l0_3 x4_1).f1).length c274_1)).setCell ⟨gb275, 2, none⟩ (.int .i64 ((rd_T56 l0_3 x4_1).f2.f0))).setCell ⟨gb275, 3, none⟩ (.int .i64 ((rd_T56 l0_3 x4_1).f2.f1))).setCell ⟨gb275, 4, none⟩ (.slice A274_4 ((rd_T56 l0_3 x4_1).f2.f2).length c274_4)) w.heap.size (fun _ => True) (.slice Ao12 y270.length co12) y270) := ⟨by (with_reducible repeat (first | apply R_alloc | apply R_drewN | apply R_drew)); exact R_mono (Kd.R_far (p := ⟨gb275, 4, none⟩) (Kd.R_far (p := ⟨gb275, 3, none⟩) (Kd.R_far (p := ⟨gb275, 2, none⟩) (Kd.R_far (p := ⟨gb275, 1, none⟩) (Kd.R_far (p := ⟨gb275, 0, none⟩) (Kd.R_types HO_274002.out BK275.out (by decide)) (fun _ hk => hk.2) (.slice A274_0 ((rd_T56 l0_3 x4_1).f0).length c274_0)) (fun _ hk => hk.2) (.slice A274_1 ((rd_T56 l0_3 x4_1).f1).length c274_1)) (fun _ hk => hk.2) (.int .i64 ((rd_T56 l0_3 x4_1).f2.f0))) (fun _ hk => hk.2) (.int .i64 ((rd_T56 l0_3 x4_1).f2.f1))) (fun _ hk => hk.2) (.slice A274_4 ((rd_T56 l0_3 x4_1).f2.f2).length c274_4)) (fun _ hk => trivial)⟩
    have n1_ : Aside0 (Kd.R k56 56 (((((w23.setCell ⟨gb275, 0, none⟩ (.slice A274_0 ((rd_T56 l0_3 x4_1).f0).length c274_0)).setCell ⟨gb275, 1, none⟩ (.slice A274_1 ((rd_T56 l0_3 x4_1).f1).length c274_1)).setCell ⟨gb275, 2, none⟩ (.int .i64 ((rd_T56 l0_3 x4_1).f2.f0))).setCell ⟨gb275, 3, none⟩ (.int .i64 ((rd_T56 l0_3 x4_1).f2.f1))).setCell ⟨gb275, 4, none⟩ (.slice A274_4 ((rd_T56 l0_3 x4_1).f2.f2).length c274_4)) w.heap.size (fun k_ => some k_ ≠ (.slice Ao12 y270.length co12 : Value).ownBlock ∧ k_ ≠ gb275) u274003 x274003_1) := ⟨by (with_reducible repeat (first | apply R_alloc | apply R_drewN | apply R_drew)); exact R_mono (Kd.R_far (p := ⟨gb275, 4, none⟩) (Kd.R_far (p := ⟨gb275, 3, none⟩) (Kd.R_far (p := ⟨gb275, 2, none⟩) (Kd.R_far (p := ⟨gb275, 1, none⟩) (Kd.R_far (p := ⟨gb275, 0, none⟩) (R_mono HO_274003.out (fun k_ hk => (⟨hk, hk.2⟩ : _ ∧ k_ ≠ gb275))) (fun _ hk => hk.2) (.slice A274_0 ((rd_T56 l0_3 x4_1).f0).length c274_0)) (fun _ hk => hk.2) (.slice A274_1 ((rd_T56 l0_3 x4_1).f1).length c274_1)) (fun _ hk => hk.2) (.int .i64 ((rd_T56 l0_3 x4_1).f2.f0))) (fun _ hk => hk.2) (.int .i64 ((rd_T56 l0_3 x4_1).f2.f1))) (fun _ hk => hk.2) (.slice A274_4 ((rd_T56 l0_3 x4_1).f2.f2).length c274_4)) (fun _ hk => ⟨hk.1.1, hk.1.2⟩)⟩
    have n2_ : Aside0 ((((((w23.setCell ⟨gb275, 0, none⟩ (.slice A274_0 ((rd_T56 l0_3 x4_1).f0).length c274_0)).setCell ⟨gb275, 1, none⟩ (.slice A274_1 ((rd_T56 l0_3 x4_1).f1).length c274_1)).setCell ⟨gb275, 2, none⟩ (.int .i64 ((rd_T56 l0_3 x4_1).f2.f0))).setCell ⟨gb275, 3, none⟩ (.int .i64 ((rd_T56 l0_3 x4_1).f2.f1))).setCell ⟨gb275, 4, none⟩ (.slice A274_4 ((rd_T56 l0_3 x4_1).f2.f2).length c274_4)).heap[gb265]? = some (.cells #[.int .i64 a0_0, .int .i64 a0_1, .slice A0_2 l0_2.length c0_2, .slice (some ad274) l0_3.length c0_3] 50 (0, 0))) := ⟨by (with_reducible repeat (first | refine blk_drewN ?_ _ | refine blk_drew ?_ | refine blk_alloc ?_ _)); refine blk_far ?_ NB265_275.out _; (with_reducible repeat (first | refine blk_drewN ?_ _ | refine blk_drew ?_ | refine blk_alloc ?_ _)); refine blk_far ?_ NB265_275.out _; (with_reducible repeat (first | refine blk_drewN ?_ _ | refine blk_drew ?_ | refine blk_alloc ?_ _)); refine blk_far ?_ NB265_275.out _; (with_reducible repeat (first | refine blk_drewN ?_ _ | refine blk_drew ?_ | refine blk_alloc ?_ _)); refine blk_far ?_ NB265_275.out _; (with_reducible repeat (first | refine blk_drewN ?_ _ | refine blk_drew ?_ | refine blk_alloc ?_ _)); refine blk_far ?_ NB265_275.out _; (with_reducible repeat (first | refine blk_drewN ?_ _ | refine blk_drew ?_ | refine blk_alloc ?_ _)); exact BK265.out⟩
    have n3_ : Aside0 ((((((w23.setCell ⟨gb275, 0, none⟩ (.slice A274_0 ((rd_T56 l0_3 x4_1).f0).length c274_0)).setCell ⟨gb275, 1, none⟩ (.slice A274_1 ((rd_T56 l0_3 x4_1).f1).length c274_1)).setCell ⟨gb275, 2, none⟩ (.int .i64 ((rd_T56 l0_3 x4_1).f2.f0))).setCell ⟨gb275, 3, none⟩ (.int .i64 ((rd_T56 l0_3 x4_1).f2.f1))).setCell ⟨gb275, 4, none⟩ (.slice A274_4 ((rd_T56 l0_3 x4_1).f2.f2).length c274_4)).heap[gb266]? = some (.cells #[.int .i64 0, .int .i64 0, .slice none 0 0, .slice none 0 0] 50 (0, 0))) := ⟨by (with_reducible repeat (first | refine blk_drewN ?_ _ | refine blk_drew ?_ | refine blk_alloc ?_ _)); refine blk_far ?_ NB266_275.out _; (with_reducible repeat (first | refine blk_drewN ?_ _ | refine blk_drew ?_ | refine blk_alloc ?_ _)); refine blk_far ?_ NB266_275.out _; (with_reducible repeat (first | refine blk_drewN ?_ _ | refine blk_drew ?_ | refine blk_alloc ?_ _)); refine blk_far ?_ NB266_275.out _; (with_reducible repeat (first | refine blk_drewN ?_ _ | refine blk_drew ?_ | refine blk_alloc ?_ _)); refine blk_far ?_ NB266_275.out _; (with_reducible repeat (first | refine blk_drewN ?_ _ | refine blk_drew ?_ | refine blk_alloc ?_ _)); refine blk_far ?_ NB266_275.out _; (with_reducible repeat (first | refine blk_drewN ?_ _ | refine blk_drew ?_ | refine blk_alloc ?_ _)); exact BK266.out⟩
    have n4_ : Aside0 ((((((w23.setCell ⟨gb275, 0, none⟩ (.slice A274_0 ((rd_T56 l0_3 x4_1).f0).length c274_0)).setCell ⟨gb275, 1, none⟩ (.slice A274_1 ((rd_T56 l0_3 x4_1).f1).length c274_1)).setCell ⟨gb275, 2, none⟩ (.int .i64 ((rd_T56 l0_3 x4_1).f2.f0))).setCell ⟨gb275, 3, none⟩ (.int .i64 ((rd_T56 l0_3 x4_1).f2.f1))).setCell ⟨gb275, 4, none⟩ (.slice A274_4 ((rd_T56 l0_3 x4_1).f2.f2).length c274_4)).heap[gb273]? = some (.cells #[.int .i64 a0_0, .int .i64 a0_1, .slice Ao12 y270.length co12, u274003] 50 (0, 0))) := ⟨by (with_reducible repeat (first | refine blk_drewN ?_ _ | refine blk_drew ?_ | refine blk_alloc ?_ _)); refine blk_far ?_ NB273_275.out _; (with_reducible repeat (first | refine blk_drewN ?_ _ | refine blk_drew ?_ | refine blk_alloc ?_ _)); refine blk_far ?_ NB273_275.out _; (with_reducible repeat (first | refine blk_drewN ?_ _ | refine blk_drew ?_ | refine blk_alloc ?_ _)); refine blk_far ?_ NB273_275.out _; (with_reducible repeat (first | refine blk_drewN ?_ _ | refine blk_drew ?_ | refine blk_alloc ?_ _)); refine blk_far ?_ NB273_275.out _; (with_reducible repeat (first | refine blk_drewN ?_ _ | refine blk_drew ?_ | refine blk_alloc ?_ _)); refine blk_far ?_ NB273_275.out _; (with_reducible repeat (first | refine blk_drewN ?_ _ | refine blk_drew ?_ | refine blk_alloc ?_ _)); exact BK273.out⟩
    have n5_ : Aside0 ((((((w23.setCell ⟨gb275, 0, none⟩ (.slice A274_0 ((rd_T56 l0_3 x4_1).f0).length c274_0)).setCell ⟨gb275, 1, none⟩ (.slice A274_1 ((rd_T56 l0_3 x4_1).f1).length c274_1)).setCell ⟨gb275, 2, none⟩ (.int .i64 ((rd_T56 l0_3 x4_1).f2.f0))).setCell ⟨gb275, 3, none⟩ (.int .i64 ((rd_T56 l0_3 x4_1).f2.f1))).setCell ⟨gb275, 4, none⟩ (.slice A274_4 ((rd_T56 l0_3 x4_1).f2.f2).length c274_4)).heap[gb275]? = some (.cells #[.slice A274_0 ((rd_T56 l0_3 x4_1).f0).length c274_0, .slice A274_1 ((rd_T56 l0_3 x4_1).f1).length c274_1, .int .i64 ((rd_T56 l0_3 x4_1).f2.f0), .int .i64 ((rd_T56 l0_3 x4_1).f2.f1), .slice A274_4 ((rd_T56 l0_3 x4_1).f2.f2).length c274_4] 56 (0, 0))) := ⟨by (with_reducible repeat (first | refine blk_drewN ?_ _ | refine blk_drew ?_ | refine blk_alloc ?_ _)); refine blk_put (cs := #[.slice A274_0 ((rd_T56 l0_3 x4_1).f0).length c274_0, .slice A274_1 ((rd_T56 l0_3 x4_1).f1).length c274_1, .int .i64 ((rd_T56 l0_3 x4_1).f2.f0), .int .i64 ((rd_T56 l0_3 x4_1).f2.f1), .slice none 0 0]) ?_ 4 _ rfl; (with_reducible repeat (first | refine blk_drewN ?_ _ | refine blk_drew ?_ | refine blk_alloc ?_ _)); refine blk_put (cs := #[.slice A274_0 ((rd_T56 l0_3 x4_1).f0).length c274_0, .slice A274_1 ((rd_T56 l0_3 x4_1).f1).length c274_1, .int .i64 ((rd_T56 l0_3 x4_1).f2.f0), .int .i64 0, .slice none 0 0]) ?_ 3 _ rfl; (with_reducible repeat (first | refine blk_drewN ?_ _ | refine blk_drew ?_ | refine blk_alloc ?_ _)); refine blk_put (cs := #[.slice A274_0 ((rd_T56 l0_3 x4_1).f0).length c274_0, .slice A274_1 ((rd_T56 l0_3 x4_1).f1).length c274_1, .int .i64 0, .int .i64 0, .slice none 0 0]) ?_ 2 _ rfl; (with_reducible repeat (first | refine blk_drewN ?_ _ | refine blk_drew ?_ | refine blk_alloc ?_ _)); refine blk_put (cs := #[.slice A274_0 ((rd_T56 l0_3 x4_1).f0).length c274_0, .slice none 0 0, .int .i64 0, .int .i64 0, .slice none 0 0]) ?_ 1 _ rfl; (with_reducible repeat (first | refine blk_drewN ?_ _ | refine blk_drew ?_ | refine blk_alloc ?_ _)); refine blk_put (cs := #[.slice none 0 0, .slice none 0 0, .int .i64 0, .int .i64 0, .slice none 0 0]) ?_ 0 _ rfl; (with_reducible repeat (first | refine blk_drewN ?_ _ | refine blk_drew ?_ | refine blk_alloc ?_ _)); exact BK275.out⟩
    have n6_ : Aside0 (Below w.heap.size w (((((w23.setCell ⟨gb275, 0, none⟩ (.slice A274_0 ((rd_T56 l0_3 x4_1).f0).length c274_0)).setCell ⟨gb275, 1, none⟩ (.slice A274_1 ((rd_T56 l0_3 x4_1).f1).length c274_1)).setCell ⟨gb275, 2, none⟩ (.int .i64 ((rd_T56 l0_3 x4_1).f2.f0))).setCell ⟨gb275, 3, none⟩ (.int .i64 ((rd_T56 l0_3 x4_1).f2.f1))).setCell ⟨gb275, 4, none⟩ (.slice A274_4 ((rd_T56 l0_3 x4_1).f2.f2).length c274_4))) := ⟨by repeat (first | (with_reducible first | exact HB.out | apply below_alloc | apply pw_below_drewN | apply below_drew1 | refine below_set ?_ GE265.out | refine below_set ?_ GE266.out | refine below_set ?_ GE273.out | refine below_set ?_ GE275.out) | exact HB.out)⟩
    (try clear HO_274002)
    (try clear HO_274003)
    (try clear BK265)
    (try clear BK266)
    (try clear BK273)
    (try clear BK275)
    (try clear HB)
    generalize (((((w23.setCell ⟨gb275, 0, none⟩ (.slice A274_0 ((rd_T56 l0_3 x4_1).f0).length c274_0)).setCell ⟨gb275, 1, none⟩ (.slice A274_1 ((rd_T56 l0_3 x4_1).f1).length c274_1)).setCell ⟨gb275, 2, none⟩ (.int .i64 ((rd_T56 l0_3 x4_1).f2.f0))).setCell ⟨gb275, 3, none⟩ (.int .i64 ((rd_T56 l0_3 x4_1).f2.f1))).setCell ⟨gb275, 4, none⟩ (.slice A274_4 ((rd_T56 l0_3 x4_1).f2.f2).length c274_4)) = w28 at n0_ n1_ n2_ n3_ n4_ n5_ n6_ ⊢
    have HO_274002 := n0_
    have HO_274003 := n1_
    have BK265 := n2_
    have BK266 := n3_
    have BK273 := n4_
    have BK275 := n5_
    have HB := n6_
    clear n0_ n1_ n2_ n3_ n4_ n5_ n6_
    have n0_ := Aside0.mk (R_drew HO_274002.out)
    have n1_ := Aside0.mk (R_drew HO_274003.out)
    have n2_ := Aside0.mk (blk_drew BK265.out)
    have n3_ := Aside0.mk (blk_drew BK266.out)
    have n4_ := Aside0.mk (blk_drew BK273.out)
    have n5_ := Aside0.mk (blk_drew BK275.out)
    have n6_ := Aside0.mk (below_drew1 HB.out)
    clear HO_274002
    clear HO_274003
    clear BK265
    clear BK266
    clear BK273
    clear BK275
    clear HB
    have HO_274002 := n0_
    have HO_274003 := n1_
    have BK265 := n2_
    have BK266 := n3_
    have BK273 := n4_
    have BK275 := n5_
    have HB := n6_
    clear n0_ n1_ n2_ n3_ n4_ n5_ n6_
    refine start_ (n := 15) (S := fun w' => w'.cell? ⟨gb275, 0, none⟩ = some (.slice A274_0 ((rd_T56 l0_3 x4_1).f0).length c274_0) ∧ w'.cell? ⟨gb275, 1, none⟩ = some (.slice A274_1 ((rd_T56 l0_3 x4_1).f1).length c274_1) ∧ w'.cell? ⟨gb275, 2, none⟩ = some (.int .i64 ((rd_T56 l0_3 x4_1).f2.f0)) ∧ w'.cell? ⟨gb275, 3, none⟩ = some (.int .i64 ((rd_T56 l0_3 x4_1).f2.f1)) ∧ w'.cell? ⟨gb275, 4, none⟩ = some (.slice A274_4 ((rd_T56 l0_3 x4_1).f2.f2).length c274_4)) (ds := []) #[false, false, false, false, false, false, false, false, false, false, false, false, false, false, false] (by kernel_rfl) rfl rfl ⟨(blk_cell BK275.out 0).trans rfl, (blk_cell BK275.out 1).trans rfl, (blk_cell BK275.out 2).trans rfl, (blk_cell BK275.out 3).trans rfl, (blk_cell BK275.out 4).trans rfl⟩ (fun hHeld => ?_); refine with_tabW fettleref02_CopyFunc.tab6 fettleref02_CopyFunc.bits6 (fun HT_ HW_ => ?_)
    generalize w28.drew = w29 at HO_274002 HO_274003 BK265 BK266 BK273 BK275 HB hHeld ⊢
    refine pu 0 31 (bt 15 1) HT_.out ?_
    refine pu 1 32 (bt 15 3) HT_.out ?_
    refine pu 3 34 (bt 15 11) HT_.out ?_
    refine pu 4 35 (bt 15 27) HT_.out ?_
    refine pu 7 38 (bt 15 155) HT_.out ?_
    refine pu 8 39 (bt 15 411) HT_.out ?_
    refine tk 2 33 (bt 15 415) HT_.out HW_.out hHeld rfl rfl (by rintro w' ⟨s0, s1, s2, s3, s4⟩; go_simp; with_reducible rfl) ?_
    refine tk 5 36 (bt 15 447) HT_.out HW_.out hHeld rfl rfl (by rintro w' ⟨s0, s1, s2, s3, s4⟩; go_simp; with_reducible rfl) ?_
    refine tk 9 40 (bt 15 959) HT_.out HW_.out hHeld rfl rfl (by rintro w' ⟨s0, s1, s2, s3, s4⟩; go_simp; with_reducible rfl) ?_
    refine join_ (σ := Value × Value × Nat) 1 (bt 15 16383) (fun s_ => [(37, s_.1), (41, s_.2.1), (6, .pointer (some ⟨s_.2.2, 0, none⟩)), (42, .agg #[.int .i64 ((rd_T56 l0_3 x4_1).f2.f0), .int .i64 ((rd_T56 l0_3 x4_1).f2.f1), s_.2.1]), (43, .agg #[.slice none 0 0, .slice none 0 0, .int .i64 ((rd_T56 l0_3 x4_1).f2.f0), .int .i64 ((rd_T56 l0_3 x4_1).f2.f1), s_.2.1])]) (fun s_ w' => (w'.cell? ⟨gb275, 0, none⟩ = some (.slice A274_0 ((rd_T56 l0_3 x4_1).f0).length c274_0) ∧ w'.cell? ⟨gb275, 1, none⟩ = some (.slice A274_1 ((rd_T56 l0_3 x4_1).f1).length c274_1) ∧ w'.cell? ⟨gb275, 2, none⟩ = some (.int .i64 ((rd_T56 l0_3 x4_1).f2.f0)) ∧ w'.cell? ⟨gb275, 3, none⟩ = some (.int .i64 ((rd_T56 l0_3 x4_1).f2.f1)) ∧ w'.cell? ⟨gb275, 4, none⟩ = some (.slice A274_4 ((rd_T56 l0_3 x4_1).f2.f2).length c274_4)) ∧ (Kd.R (Kd.int .i64) 3 w' w.heap.size (fun k_ => some k_ ≠ (.slice Ao12 y270.length co12 : Value).ownBlock) s_.2.1 y279) ∧ (Kd.R (Kd.int .i64) 3 w' w.heap.size (fun k_ => some k_ ≠ (s_.2.1 : Value).ownBlock) (.slice Ao12 y270.length co12) y270) ∧ (Kd.R k56 56 w' w.heap.size (fun k_ => some k_ ≠ (s_.2.1 : Value).ownBlock ∧ some k_ ≠ (.slice Ao12 y270.length co12 : Value).ownBlock ∧ k_ ≠ gb275 ∧ k_ ≠ s_.2.2) u274003 x274003_1) ∧ (w'.heap[gb265]? = some (.cells #[.int .i64 a0_0, .int .i64 a0_1, .slice A0_2 l0_2.length c0_2, .slice (some ad274) l0_3.length c0_3] 50 (0, 0))) ∧ (w'.heap[gb266]? = some (.cells #[.int .i64 0, .int .i64 0, .slice none 0 0, .slice none 0 0] 50 (0, 0))) ∧ (w'.heap[gb273]? = some (.cells #[.int .i64 a0_0, .int .i64 a0_1, .slice Ao12 y270.length co12, u274003] 50 (0, 0))) ∧ (w'.heap[gb275]? = some (.cells #[.slice A274_0 ((rd_T56 l0_3 x4_1).f0).length c274_0, .slice A274_1 ((rd_T56 l0_3 x4_1).f1).length c274_1, .int .i64 ((rd_T56 l0_3 x4_1).f2.f0), .int .i64 ((rd_T56 l0_3 x4_1).f2.f1), .slice A274_4 ((rd_T56 l0_3 x4_1).f2.f2).length c274_4] 56 (0, 0))) ∧ (w'.heap[s_.2.2]? = some (.cells #[.slice none 0 0, .slice none 0 0, .int .i64 0, .int .i64 0, .slice none 0 0] 56 (0, 0))) ∧ (w.heap.size ≤ s_.2.2) ∧ (w.heap.size ≤ s_.2.2) ∧ (gb265 ≠ s_.2.2) ∧ (s_.2.2 ≠ gb265) ∧ (gb266 ≠ s_.2.2) ∧ (s_.2.2 ≠ gb266) ∧ (gb273 ≠ s_.2.2) ∧ (s_.2.2 ≠ gb273) ∧ (gb275 ≠ s_.2.2) ∧ (s_.2.2 ≠ gb275) ∧ (Below w.heap.size w w')) ?_ ?_
    rotate_left
    · intro hCont
      refine two_ (i := 6) (j := 13) (Ni := some 37) (Nj := some 6) (bt 15 1023) (bt 15 9151) rfl rfl rfl rfl (two_of HT_.out (by kernel_rfl)) (by decide) (by decide) (fun K hK => ?_) (fun K hK => ?_)
      · skip
        refine Kd.R_lit_step (Kd.int .i64) _ 3 ?hg (N := 37) ?hd (xs := ([] : List Int)) (inner := []) (ok := fun _ => True) (okp := fun _ => True) ?hr ?hp (fun _ hk => hk) trivial (Below.refl _ _) (Nat.le_refl _) (by simp) ?_; (case hd => rfl); (case hg => rfl); (case hr => first | (go_simp; done) | (go_simp; rfl)); (case hp => exact (Reps.none _ _))
        intro v277 w30 ho31 hb hg_ hnew_
        clear hg_ hnew_
        rw [← Ny276.out] at ho31
        have n0_ := Aside0.mk (R_elder' (by (with_reducible repeat (first | apply R_alloc | apply R_drewN | apply R_drew)); exact HO_274002.out) (R_base ho31) hb)
        have n1_ := Aside0.mk (R_elder' (by (with_reducible repeat (first | apply R_alloc | apply R_drewN | apply R_drew)); exact HO_274003.out) (R_base ho31) hb)
        have n2_ := Aside0.mk (Kd.R_lower (R_new' ho31 (R_lt (by (with_reducible repeat (first | apply R_alloc | apply R_drewN | apply R_drew)); exact HO_274002.out))) (below_size (by repeat with_reducible first | exact HB.out | apply below_alloc | apply pw_below_drewN | apply below_drew1 | refine below_set ?_ GE265.out | refine below_set ?_ GE266.out | refine below_set ?_ GE273.out | refine below_set ?_ GE275.out)))
        have n3_ := Aside0.mk (blk_below (g := gb265) (o := .cells #[.int .i64 a0_0, .int .i64 a0_1, .slice A0_2 l0_2.length c0_2, .slice (some ad274) l0_3.length c0_3] 50 (0, 0)) (by (with_reducible repeat (first | refine blk_drewN ?_ _ | refine blk_drew ?_ | refine blk_alloc ?_ _)); exact BK265.out) hb)
        have n4_ := Aside0.mk (blk_below (g := gb266) (o := .cells #[.int .i64 0, .int .i64 0, .slice none 0 0, .slice none 0 0] 50 (0, 0)) (by (with_reducible repeat (first | refine blk_drewN ?_ _ | refine blk_drew ?_ | refine blk_alloc ?_ _)); exact BK266.out) hb)
        have n5_ := Aside0.mk (blk_below (g := gb273) (o := .cells #[.int .i64 a0_0, .int .i64 a0_1, .slice Ao12 y270.length co12, u274003] 50 (0, 0)) (by (with_reducible repeat (first | refine blk_drewN ?_ _ | refine blk_drew ?_ | refine blk_alloc ?_ _)); exact BK273.out) hb)
        have n6_ := Aside0.mk (blk_below (g := gb275) (o := .cells #[.slice A274_0 ((rd_T56 l0_3 x4_1).f0).length c274_0, .slice A274_1 ((rd_T56 l0_3 x4_1).f1).length c274_1, .int .i64 ((rd_T56 l0_3 x4_1).f2.f0), .int .i64 ((rd_T56 l0_3 x4_1).f2.f1), .slice A274_4 ((rd_T56 l0_3 x4_1).f2.f2).length c274_4] 56 (0, 0)) (by (with_reducible repeat (first | refine blk_drewN ?_ _ | refine blk_drew ?_ | refine blk_alloc ?_ _)); exact BK275.out) hb)
        have n7_ := Aside0.mk (below_step (by repeat with_reducible first | exact HB.out | apply below_alloc | apply pw_below_drewN | apply below_drew1 | refine below_set ?_ GE265.out | refine below_set ?_ GE266.out | refine below_set ?_ GE273.out | refine below_set ?_ GE275.out) hb)
        clear HO_274002
        clear HO_274003
        clear BK265
        clear BK266
        clear BK273
        clear BK275
        clear HB
        have HO_274002 := n0_
        have HO_274003 := n1_
        have HO278 := n2_
        have BK265 := n3_
        have BK266 := n4_
        have BK273 := n5_
        have BK275 := n6_
        have HB := n7_
        clear n0_ n1_ n2_ n3_ n4_ n5_ n6_ n7_
        clear hb ho31
        refine hK.out _ _ ⟨(blk_cell BK275.out 0).trans rfl, (blk_cell BK275.out 1).trans rfl, (blk_cell BK275.out 2).trans rfl, (blk_cell BK275.out 3).trans rfl, (blk_cell BK275.out 4).trans rfl⟩ (fun hHeld => ?_)
        clear hK K
        refine norm_ (a' := ?_) ?_ ?_
        rotate_left
        · show Act.put _ (some 37) _ = _
          simp only [Act.put, List.setIfInBounds_toArray, List.set_cons_zero, List.set_cons_succ, i64_w, i32_w]
          rfl
        refine two_ (i := 10) (j := 13) (Ni := some 41) (Nj := some 6) (bt 15 2047) (bt 15 9215) rfl rfl rfl rfl (two_of HT_.out (by kernel_rfl)) (by decide) (by decide) (fun K hK => ?_) (fun K hK => ?_)
        · skip
          refine Kd.R_append_rows_step (Kd.int .i64) (w0 := w) w.heap.size (by rfl) (.tmp 37) (.tmp 40) 47 3 (.int .i64 0) 8 rfl Tryd.underlying47 info3 rfl (by decide) (by omega) v277 y276 ((rd_T56 l0_3 x4_1).f2.f2) _ _ _ (fun k_ => some k_ ≠ (.slice Ao12 y270.length co12 : Value).ownBlock) (fun _ => False) rfl rfl ?aO ?aR (fun _ _ h => h) (fun _ h => h.elim) ?aF ?aB ?aS ?aL ?_
          (case aR => repeat (first | exact (C_below HR274_4.out HB.out) | (with_reducible refine C_alloc ?_ _) | (with_reducible refine C_drewN ?_ _) | (with_reducible refine C_drew ?_)))
          (case aB => exact (by repeat with_reducible first | exact HB.out | apply below_alloc | apply pw_below_drewN | apply below_drew1 | refine below_set ?_ GE265.out | refine below_set ?_ GE266.out | refine below_set ?_ GE273.out | refine below_set ?_ GE275.out))
          (case aF => exact (fun k_ hk => Kd.fresh' (R_lt (by (with_reducible repeat (first | apply R_alloc | apply R_drewN | apply R_drew)); exact HO_274002.out)) k_ hk))
          (case aO => exact (by (with_reducible repeat (first | apply R_alloc | apply R_drewN | apply R_drew)); exact R_mono HO278.out (fun _ hk => hk.2)))
          (case aS => exact (below_size (by repeat with_reducible first | exact HB.out | apply below_alloc | apply pw_below_drewN | apply below_drew1 | refine below_set ?_ GE265.out | refine below_set ?_ GE266.out | refine below_set ?_ GE273.out | refine below_set ?_ GE275.out)))
          (case aL => have := LMc19.out; omega)
          intro v280 w32 ho hb hg hat
          rw [← Ny279.out] at ho
          have n0_ := Aside0.mk (Kd.R_after (ok := (fun _ => True)) (by (with_reducible repeat (first | apply R_alloc | apply R_drewN | apply R_drew)); exact HO_274002.out) hg hat)
          have n1_ := Aside0.mk (Kd.R_after (ok := (fun k_ => some k_ ≠ (.slice Ao12 y270.length co12 : Value).ownBlock ∧ k_ ≠ gb275)) (by (with_reducible repeat (first | apply R_alloc | apply R_drewN | apply R_drew)); exact HO_274003.out) hg hat)
          have n2_ := Aside0.mk (blk_grown (g := gb265) (o := .cells #[.int .i64 a0_0, .int .i64 a0_1, .slice A0_2 l0_2.length c0_2, .slice (some ad274) l0_3.length c0_3] 50 (0, 0)) (by (with_reducible repeat (first | refine blk_drewN ?_ _ | refine blk_drew ?_ | refine blk_alloc ?_ _)); exact BK265.out) hg (Kd.R_ne HO278.out BK265.out (by decide)))
          have n3_ := Aside0.mk (blk_grown (g := gb266) (o := .cells #[.int .i64 0, .int .i64 0, .slice none 0 0, .slice none 0 0] 50 (0, 0)) (by (with_reducible repeat (first | refine blk_drewN ?_ _ | refine blk_drew ?_ | refine blk_alloc ?_ _)); exact BK266.out) hg (Kd.R_ne HO278.out BK266.out (by decide)))
          have n4_ := Aside0.mk (blk_grown (g := gb273) (o := .cells #[.int .i64 a0_0, .int .i64 a0_1, .slice Ao12 y270.length co12, u274003] 50 (0, 0)) (by (with_reducible repeat (first | refine blk_drewN ?_ _ | refine blk_drew ?_ | refine blk_alloc ?_ _)); exact BK273.out) hg (Kd.R_ne HO278.out BK273.out (by decide)))
          have n5_ := Aside0.mk (blk_grown (g := gb275) (o := .cells #[.slice A274_0 ((rd_T56 l0_3 x4_1).f0).length c274_0, .slice A274_1 ((rd_T56 l0_3 x4_1).f1).length c274_1, .int .i64 ((rd_T56 l0_3 x4_1).f2.f0), .int .i64 ((rd_T56 l0_3 x4_1).f2.f1), .slice A274_4 ((rd_T56 l0_3 x4_1).f2.f2).length c274_4] 56 (0, 0)) (by (with_reducible repeat (first | refine blk_drewN ?_ _ | refine blk_drew ?_ | refine blk_alloc ?_ _)); exact BK275.out) hg (Kd.R_ne HO278.out BK275.out (by decide)))
          have n6_ := Aside0.mk (hb)
          have n7_ := Aside0.mk (ho)
          clear HO_274002
          clear HO_274003
          clear BK265
          clear BK266
          clear BK273
          clear BK275
          clear HB
          clear HO278
          have HO_274002 := n0_
          have HO_274003 := n1_
          have BK265 := n2_
          have BK266 := n3_
          have BK273 := n4_
          have BK275 := n5_
          have HB := n6_
          have HO281 := n7_
          clear n0_ n1_ n2_ n3_ n4_ n5_ n6_ n7_
          clear ho hb hg hat
          obtain ⟨Ao33, co33, eo33⟩ := Kd.R_slice HO281.out
          (first | subst eo33 | (injection eo33 with f1_ f2_ f3_; have f4_ := f1_.symm; have f5_ := f3_.symm; clear f1_ f2_ f3_; subst f4_; subst f5_))
          refine hK.out _ _ ⟨(blk_cell BK275.out 0).trans rfl, (blk_cell BK275.out 1).trans rfl, (blk_cell BK275.out 2).trans rfl, (blk_cell BK275.out 3).trans rfl, (blk_cell BK275.out 4).trans rfl⟩ (fun hHeld => ?_)
          clear hK K
          refine norm_ (a' := ?_) ?_ ?_
          rotate_left
          · show Act.put _ (some 41) _ = _
            simp only [Act.put, List.setIfInBounds_toArray, List.set_cons_zero, List.set_cons_succ, i64_w, i32_w]
            rfl
          refine pu 11 42 (bt 15 4095) HT_.out ?_
          refine pu 12 43 (bt 15 8191) HT_.out ?_
          refine one_ (i := 13) (N := some 6) (bt 15 16383) rfl rfl (one_of HT_.out (by kernel_rfl)) (by decide) (fun K hK => ?_)
          refine box_step ?hg (N := 6) ?hd (cs := #[.slice none 0 0, .slice none 0 0, .int .i64 0, .int .i64 0, .slice none 0 0]) (t := 56) ?hr ?_; (case hd => rfl); (case hg => rfl); (case hr => first | (go_simp; done) | (go_simp; rfl))
          intro gb282 hg w34 hbox hb
          have n0_ := Aside0.mk (Kd.R_below (by (with_reducible repeat (first | apply R_alloc | apply R_drewN | apply R_drew)); exact HO_274002.out) hb)
          have n1_ := Aside0.mk (Kd.R_below (Kd.R_elderB (by (with_reducible repeat (first | apply R_alloc | apply R_drewN | apply R_drew)); exact HO_274003.out) gb282 (Nat.le_of_eq hg.symm)) hb)
          have n2_ := Aside0.mk (Kd.R_below (by (with_reducible repeat (first | apply R_alloc | apply R_drewN | apply R_drew)); exact HO281.out) hb)
          have n3_ := Aside0.mk (blk_below (g := gb265) (o := .cells #[.int .i64 a0_0, .int .i64 a0_1, .slice A0_2 l0_2.length c0_2, .slice (some ad274) l0_3.length c0_3] 50 (0, 0)) (by (with_reducible repeat (first | refine blk_drewN ?_ _ | refine blk_drew ?_ | refine blk_alloc ?_ _)); exact BK265.out) hb)
          have n4_ := Aside0.mk (blk_below (g := gb266) (o := .cells #[.int .i64 0, .int .i64 0, .slice none 0 0, .slice none 0 0] 50 (0, 0)) (by (with_reducible repeat (first | refine blk_drewN ?_ _ | refine blk_drew ?_ | refine blk_alloc ?_ _)); exact BK266.out) hb)
          have n5_ := Aside0.mk (blk_below (g := gb273) (o := .cells #[.int .i64 a0_0, .int .i64 a0_1, .slice Ao12 y270.length co12, u274003] 50 (0, 0)) (by (with_reducible repeat (first | refine blk_drewN ?_ _ | refine blk_drew ?_ | refine blk_alloc ?_ _)); exact BK273.out) hb)
          have n6_ := Aside0.mk (blk_below (g := gb275) (o := .cells #[.slice A274_0 ((rd_T56 l0_3 x4_1).f0).length c274_0, .slice A274_1 ((rd_T56 l0_3 x4_1).f1).length c274_1, .int .i64 ((rd_T56 l0_3 x4_1).f2.f0), .int .i64 ((rd_T56 l0_3 x4_1).f2.f1), .slice A274_4 ((rd_T56 l0_3 x4_1).f2.f2).length c274_4] 56 (0, 0)) (by (with_reducible repeat (first | refine blk_drewN ?_ _ | refine blk_drew ?_ | refine blk_alloc ?_ _)); exact BK275.out) hb)
          have n7_ := Aside0.mk (below_step (by repeat with_reducible first | exact HB.out | apply below_alloc | apply pw_below_drewN | apply below_drew1 | refine below_set ?_ GE265.out | refine below_set ?_ GE266.out | refine below_set ?_ GE273.out | refine below_set ?_ GE275.out) hb)
          have n8_ := Aside0.mk (hbox)
          have n9_ := Aside0.mk ((by rw [hg]; exact (below_size (by repeat with_reducible first | exact HB.out | apply below_alloc | apply pw_below_drewN | apply below_drew1 | refine below_set ?_ GE265.out | refine below_set ?_ GE266.out | refine below_set ?_ GE273.out | refine below_set ?_ GE275.out)) : w.heap.size ≤ gb282))
          have n10_ := Aside0.mk ((by rw [hg]; exact (below_size (by repeat with_reducible first | exact HB.out | apply below_alloc | apply pw_below_drewN | apply below_drew1 | refine below_set ?_ GE265.out | refine below_set ?_ GE266.out | refine below_set ?_ GE273.out | refine below_set ?_ GE275.out)) : w.heap.size ≤ gb282))
          have n11_ := Aside0.mk ((by rw [hg]; exact Nat.ne_of_lt (blk_lt (g := gb265) (o := .cells #[.int .i64 a0_0, .int .i64 a0_1, .slice A0_2 l0_2.length c0_2, .slice (some ad274) l0_3.length c0_3] 50 (0, 0)) (by (with_reducible repeat (first | refine blk_drewN ?_ _ | refine blk_drew ?_ | refine blk_alloc ?_ _)); exact BK265.out)) : gb265 ≠ gb282))
          have n12_ := Aside0.mk ((by rw [hg]; exact Nat.ne_of_gt (blk_lt (g := gb265) (o := .cells #[.int .i64 a0_0, .int .i64 a0_1, .slice A0_2 l0_2.length c0_2, .slice (some ad274) l0_3.length c0_3] 50 (0, 0)) (by (with_reducible repeat (first | refine blk_drewN ?_ _ | refine blk_drew ?_ | refine blk_alloc ?_ _)); exact BK265.out)) : gb282 ≠ gb265))
          have n13_ := Aside0.mk ((by rw [hg]; exact Nat.ne_of_lt (blk_lt (g := gb266) (o := .cells #[.int .i64 0, .int .i64 0, .slice none 0 0, .slice none 0 0] 50 (0, 0)) (by (with_reducible repeat (first | refine blk_drewN ?_ _ | refine blk_drew ?_ | refine blk_alloc ?_ _)); exact BK266.out)) : gb266 ≠ gb282))
          have n14_ := Aside0.mk ((by rw [hg]; exact Nat.ne_of_gt (blk_lt (g := gb266) (o := .cells #[.int .i64 0, .int .i64 0, .slice none 0 0, .slice none 0 0] 50 (0, 0)) (by (with_reducible repeat (first | refine blk_drewN ?_ _ | refine blk_drew ?_ | refine blk_alloc ?_ _)); exact BK266.out)) : gb282 ≠ gb266))
          have n15_ := Aside0.mk ((by rw [hg]; exact Nat.ne_of_lt (blk_lt (g := gb273) (o := .cells #[.int .i64 a0_0, .int .i64 a0_1, .slice Ao12 y270.length co12, u274003] 50 (0, 0)) (by (with_reducible repeat (first | refine blk_drewN ?_ _ | refine blk_drew ?_ | refine blk_alloc ?_ _)); exact BK273.out)) : gb273 ≠ gb282))
          have n16_ := Aside0.mk ((by rw [hg]; exact Nat.ne_of_gt (blk_lt (g := gb273) (o := .cells #[.int .i64 a0_0, .int .i64 a0_1, .slice Ao12 y270.length co12, u274003] 50 (0, 0)) (by (with_reducible repeat (first | refine blk_drewN ?_ _ | refine blk_drew ?_ | refine blk_alloc ?_ _)); exact BK273.out)) : gb282 ≠ gb273))
          have n17_ := Aside0.mk ((by rw [hg]; exact Nat.ne_of_lt (blk_lt (g := gb275) (o := .cells #[.slice A274_0 ((rd_T56 l0_3 x4_1).f0).length c274_0, .slice A274_1 ((rd_T56 l0_3 x4_1).f1).length c274_1, .int .i64 ((rd_T56 l0_3 x4_1).f2.f0), .int .i64 ((rd_T56 l0_3 x4_1).f2.f1), .slice A274_4 ((rd_T56 l0_3 x4_1).f2.f2).length c274_4] 56 (0, 0)) (by (with_reducible repeat (first | refine blk_drewN ?_ _ | refine blk_drew ?_ | refine blk_alloc ?_ _)); exact BK275.out)) : gb275 ≠ gb282))
          have n18_ := Aside0.mk ((by rw [hg]; exact Nat.ne_of_gt (blk_lt (g := gb275) (o := .cells #[.slice A274_0 ((rd_T56 l0_3 x4_1).f0).length c274_0, .slice A274_1 ((rd_T56 l0_3 x4_1).f1).length c274_1, .int .i64 ((rd_T56 l0_3 x4_1).f2.f0), .int .i64 ((rd_T56 l0_3 x4_1).f2.f1), .slice A274_4 ((rd_T56 l0_3 x4_1).f2.f2).length c274_4] 56 (0, 0)) (by (with_reducible repeat (first | refine blk_drewN ?_ _ | refine blk_drew ?_ | refine blk_alloc ?_ _)); exact BK275.out)) : gb282 ≠ gb275))
          clear HO_274002
          clear HO_274003
          clear HO281
          clear BK265
          clear BK266
          clear BK273
          clear BK275
          clear HB
          have HO_274002 := n0_
          have HO_274003 := n1_
          have HO281 := n2_
          have BK265 := n3_
          have BK266 := n4_
          have BK273 := n5_
          have BK275 := n6_
          have HB := n7_
          have BK282 := n8_
          have GW282 := n9_
          have GE282 := n10_
          have NB265_282 := n11_
          have NB282_265 := n12_
          have NB266_282 := n13_
          have NB282_266 := n14_
          have NB273_282 := n15_
          have NB282_273 := n16_
          have NB275_282 := n17_
          have NB282_275 := n18_
          clear n0_ n1_ n2_ n3_ n4_ n5_ n6_ n7_ n8_ n9_ n10_ n11_ n12_ n13_ n14_ n15_ n16_ n17_ n18_
          clear hb hbox hg
          refine hK.out _ _ ⟨(blk_cell BK275.out 0).trans rfl, (blk_cell BK275.out 1).trans rfl, (blk_cell BK275.out 2).trans rfl, (blk_cell BK275.out 3).trans rfl, (blk_cell BK275.out 4).trans rfl⟩ (fun hHeld => ?_)
          clear hK K
          refine norm_ (a' := ?_) ?_ ?_
          rotate_left
          · show Act.put _ (some 6) _ = _
            simp only [Act.put, List.setIfInBounds_toArray, List.set_cons_zero, List.set_cons_succ, i64_w, i32_w]
            rfl
          exact norm_ (by simp only [putAll, Act.put, List.setIfInBounds_toArray, List.set_cons_zero, List.set_cons_succ]) (hCont (v277, .slice Ao33 y279.length co33, gb282) _ ⟨hHeld, (by (with_reducible repeat (first | apply R_alloc | apply R_drewN | apply R_drew)); exact HO281.out), (by (with_reducible repeat (first | apply R_alloc | apply R_drewN | apply R_drew)); exact R_mono HO_274002.out (fun _ hk => hk.2)), (by (with_reducible repeat (first | apply R_alloc | apply R_drewN | apply R_drew)); exact R_mono HO_274003.out (fun _ hk => ⟨hk.1.2, ⟨hk.1.1.1, ⟨hk.1.1.2, hk.2⟩⟩⟩)), (by (with_reducible repeat (first | refine blk_drewN ?_ _ | refine blk_drew ?_ | refine blk_alloc ?_ _)); exact BK265.out), (by (with_reducible repeat (first | refine blk_drewN ?_ _ | refine blk_drew ?_ | refine blk_alloc ?_ _)); exact BK266.out), (by (with_reducible repeat (first | refine blk_drewN ?_ _ | refine blk_drew ?_ | refine blk_alloc ?_ _)); exact BK273.out), (by (with_reducible repeat (first | refine blk_drewN ?_ _ | refine blk_drew ?_ | refine blk_alloc ?_ _)); exact BK275.out), (by (with_reducible repeat (first | refine blk_drewN ?_ _ | refine blk_drew ?_ | refine blk_alloc ?_ _)); exact BK282.out), GW282.out, GE282.out, NB265_282.out, NB282_265.out, NB266_282.out, NB282_266.out, NB273_282.out, NB282_273.out, NB275_282.out, NB282_275.out, (by repeat with_reducible first | exact HB.out | apply below_alloc | apply pw_below_drewN | apply below_drew1 | refine below_set ?_ GE265.out | refine below_set ?_ GE266.out | refine below_set ?_ GE273.out | refine below_set ?_ GE275.out | refine below_set ?_ GE282.out)⟩)
        skip
        refine box_step ?hg (N := 6) ?hd (cs := #[.slice none 0 0, .slice none 0 0, .int .i64 0, .int .i64 0, .slice none 0 0]) (t := 56) ?hr ?_; (case hd => rfl); (case hg => rfl); (case hr => first | (go_simp; done) | (go_simp; rfl))
        intro gb282 hg w32 hbox hb
        have n0_ := Aside0.mk (Kd.R_below (by (with_reducible repeat (first | apply R_alloc | apply R_drewN | apply R_drew)); exact HO_274002.out) hb)
        have n1_ := Aside0.mk (Kd.R_below (Kd.R_elderB (by (with_reducible repeat (first | apply R_alloc | apply R_drewN | apply R_drew)); exact HO_274003.out) gb282 (Nat.le_of_eq hg.symm)) hb)
        have n2_ := Aside0.mk (Kd.R_below (by (with_reducible repeat (first | apply R_alloc | apply R_drewN | apply R_drew)); exact HO278.out) hb)
        have n3_ := Aside0.mk (blk_below (g := gb265) (o := .cells #[.int .i64 a0_0, .int .i64 a0_1, .slice A0_2 l0_2.length c0_2, .slice (some ad274) l0_3.length c0_3] 50 (0, 0)) (by (with_reducible repeat (first | refine blk_drewN ?_ _ | refine blk_drew ?_ | refine blk_alloc ?_ _)); exact BK265.out) hb)
        have n4_ := Aside0.mk (blk_below (g := gb266) (o := .cells #[.int .i64 0, .int .i64 0, .slice none 0 0, .slice none 0 0] 50 (0, 0)) (by (with_reducible repeat (first | refine blk_drewN ?_ _ | refine blk_drew ?_ | refine blk_alloc ?_ _)); exact BK266.out) hb)
        have n5_ := Aside0.mk (blk_below (g := gb273) (o := .cells #[.int .i64 a0_0, .int .i64 a0_1, .slice Ao12 y270.length co12, u274003] 50 (0, 0)) (by (with_reducible repeat (first | refine blk_drewN ?_ _ | refine blk_drew ?_ | refine blk_alloc ?_ _)); exact BK273.out) hb)
        have n6_ := Aside0.mk (blk_below (g := gb275) (o := .cells #[.slice A274_0 ((rd_T56 l0_3 x4_1).f0).length c274_0, .slice A274_1 ((rd_T56 l0_3 x4_1).f1).length c274_1, .int .i64 ((rd_T56 l0_3 x4_1).f2.f0), .int .i64 ((rd_T56 l0_3 x4_1).f2.f1), .slice A274_4 ((rd_T56 l0_3 x4_1).f2.f2).length c274_4] 56 (0, 0)) (by (with_reducible repeat (first | refine blk_drewN ?_ _ | refine blk_drew ?_ | refine blk_alloc ?_ _)); exact BK275.out) hb)
        have n7_ := Aside0.mk (below_step (by repeat with_reducible first | exact HB.out | apply below_alloc | apply pw_below_drewN | apply below_drew1 | refine below_set ?_ GE265.out | refine below_set ?_ GE266.out | refine below_set ?_ GE273.out | refine below_set ?_ GE275.out) hb)
        have n8_ := Aside0.mk (hbox)
        have n9_ := Aside0.mk ((by rw [hg]; exact (below_size (by repeat with_reducible first | exact HB.out | apply below_alloc | apply pw_below_drewN | apply below_drew1 | refine below_set ?_ GE265.out | refine below_set ?_ GE266.out | refine below_set ?_ GE273.out | refine below_set ?_ GE275.out)) : w.heap.size ≤ gb282))
        have n10_ := Aside0.mk ((by rw [hg]; exact (below_size (by repeat with_reducible first | exact HB.out | apply below_alloc | apply pw_below_drewN | apply below_drew1 | refine below_set ?_ GE265.out | refine below_set ?_ GE266.out | refine below_set ?_ GE273.out | refine below_set ?_ GE275.out)) : w.heap.size ≤ gb282))
        have n11_ := Aside0.mk ((by rw [hg]; exact Nat.ne_of_lt (blk_lt (g := gb265) (o := .cells #[.int .i64 a0_0, .int .i64 a0_1, .slice A0_2 l0_2.length c0_2, .slice (some ad274) l0_3.length c0_3] 50 (0, 0)) (by (with_reducible repeat (first | refine blk_drewN ?_ _ | refine blk_drew ?_ | refine blk_alloc ?_ _)); exact BK265.out)) : gb265 ≠ gb282))
        have n12_ := Aside0.mk ((by rw [hg]; exact Nat.ne_of_gt (blk_lt (g := gb265) (o := .cells #[.int .i64 a0_0, .int .i64 a0_1, .slice A0_2 l0_2.length c0_2, .slice (some ad274) l0_3.length c0_3] 50 (0, 0)) (by (with_reducible repeat (first | refine blk_drewN ?_ _ | refine blk_drew ?_ | refine blk_alloc ?_ _)); exact BK265.out)) : gb282 ≠ gb265))
        have n13_ := Aside0.mk ((by rw [hg]; exact Nat.ne_of_lt (blk_lt (g := gb266) (o := .cells #[.int .i64 0, .int .i64 0, .slice none 0 0, .slice none 0 0] 50 (0, 0)) (by (with_reducible repeat (first | refine blk_drewN ?_ _ | refine blk_drew ?_ | refine blk_alloc ?_ _)); exact BK266.out)) : gb266 ≠ gb282))
        have n14_ := Aside0.mk ((by rw [hg]; exact Nat.ne_of_gt (blk_lt (g := gb266) (o := .cells #[.int .i64 0, .int .i64 0, .slice none 0 0, .slice none 0 0] 50 (0, 0)) (by (with_reducible repeat (first | refine blk_drewN ?_ _ | refine blk_drew ?_ | refine blk_alloc ?_ _)); exact BK266.out)) : gb282 ≠ gb266))
        have n15_ := Aside0.mk ((by rw [hg]; exact Nat.ne_of_lt (blk_lt (g := gb273) (o := .cells #[.int .i64 a0_0, .int .i64 a0_1, .slice Ao12 y270.length co12, u274003] 50 (0, 0)) (by (with_reducible repeat (first | refine blk_drewN ?_ _ | refine blk_drew ?_ | refine blk_alloc ?_ _)); exact BK273.out)) : gb273 ≠ gb282))
        have n16_ := Aside0.mk ((by rw [hg]; exact Nat.ne_of_gt (blk_lt (g := gb273) (o := .cells #[.int .i64 a0_0, .int .i64 a0_1, .slice Ao12 y270.length co12, u274003] 50 (0, 0)) (by (with_reducible repeat (first | refine blk_drewN ?_ _ | refine blk_drew ?_ | refine blk_alloc ?_ _)); exact BK273.out)) : gb282 ≠ gb273))
        have n17_ := Aside0.mk ((by rw [hg]; exact Nat.ne_of_lt (blk_lt (g := gb275) (o := .cells #[.slice A274_0 ((rd_T56 l0_3 x4_1).f0).length c274_0, .slice A274_1 ((rd_T56 l0_3 x4_1).f1).length c274_1, .int .i64 ((rd_T56 l0_3 x4_1).f2.f0), .int .i64 ((rd_T56 l0_3 x4_1).f2.f1), .slice A274_4 ((rd_T56 l0_3 x4_1).f2.f2).length c274_4] 56 (0, 0)) (by (with_reducible repeat (first | refine blk_drewN ?_ _ | refine blk_drew ?_ | refine blk_alloc ?_ _)); exact BK275.out)) : gb275 ≠ gb282))
        have n18_ := Aside0.mk ((by rw [hg]; exact Nat.ne_of_gt (blk_lt (g := gb275) (o := .cells #[.slice A274_0 ((rd_T56 l0_3 x4_1).f0).length c274_0, .slice A274_1 ((rd_T56 l0_3 x4_1).f1).length c274_1, .int .i64 ((rd_T56 l0_3 x4_1).f2.f0), .int .i64 ((rd_T56 l0_3 x4_1).f2.f1), .slice A274_4 ((rd_T56 l0_3 x4_1).f2.f2).length c274_4] 56 (0, 0)) (by (with_reducible repeat (first | refine blk_drewN ?_ _ | refine blk_drew ?_ | refine blk_alloc ?_ _)); exact BK275.out)) : gb282 ≠ gb275))
        clear HO_274002
        clear HO_274003
        clear HO278
        clear BK265
        clear BK266
        clear BK273
        clear BK275
        clear HB
        have HO_274002 := n0_
        have HO_274003 := n1_
        have HO278 := n2_
        have BK265 := n3_
        have BK266 := n4_
        have BK273 := n5_
        have BK275 := n6_
        have HB := n7_
        have BK282 := n8_
        have GW282 := n9_
        have GE282 := n10_
        have NB265_282 := n11_
        have NB282_265 := n12_
        have NB266_282 := n13_
        have NB282_266 := n14_
        have NB273_282 := n15_
        have NB282_273 := n16_
        have NB275_282 := n17_
        have NB282_275 := n18_
        clear n0_ n1_ n2_ n3_ n4_ n5_ n6_ n7_ n8_ n9_ n10_ n11_ n12_ n13_ n14_ n15_ n16_ n17_ n18_
        clear hb hbox hg
        refine hK.out _ _ ⟨(blk_cell BK275.out 0).trans rfl, (blk_cell BK275.out 1).trans rfl, (blk_cell BK275.out 2).trans rfl, (blk_cell BK275.out 3).trans rfl, (blk_cell BK275.out 4).trans rfl⟩ (fun hHeld => ?_)
        clear hK K
        refine norm_ (a' := ?_) ?_ ?_
        rotate_left
        · show Act.put _ (some 6) _ = _
          simp only [Act.put, List.setIfInBounds_toArray, List.set_cons_zero, List.set_cons_succ, i64_w, i32_w]
          rfl
        refine one_ (i := 10) (N := some 41) (bt 15 10239) rfl rfl (one_of HT_.out (by kernel_rfl)) (by decide) (fun K hK => ?_)
        refine Kd.R_append_rows_step (Kd.int .i64) (w0 := w) w.heap.size (by rfl) (.tmp 37) (.tmp 40) 47 3 (.int .i64 0) 8 rfl Tryd.underlying47 info3 rfl (by decide) (by omega) v277 y276 ((rd_T56 l0_3 x4_1).f2.f2) _ _ _ (fun k_ => some k_ ≠ (.slice Ao12 y270.length co12 : Value).ownBlock) (fun _ => False) rfl rfl ?aO ?aR (fun _ _ h => h) (fun _ h => h.elim) ?aF ?aB ?aS ?aL ?_
        (case aR => repeat (first | exact (C_below HR274_4.out HB.out) | (with_reducible refine C_alloc ?_ _) | (with_reducible refine C_drewN ?_ _) | (with_reducible refine C_drew ?_)))
        (case aB => exact (by repeat with_reducible first | exact HB.out | apply below_alloc | apply pw_below_drewN | apply below_drew1 | refine below_set ?_ GE265.out | refine below_set ?_ GE266.out | refine below_set ?_ GE273.out | refine below_set ?_ GE275.out | refine below_set ?_ GE282.out))
        (case aF => exact (fun k_ hk => Kd.fresh' (R_lt (by (with_reducible repeat (first | apply R_alloc | apply R_drewN | apply R_drew)); exact HO_274002.out)) k_ hk))
        (case aO => exact (by (with_reducible repeat (first | apply R_alloc | apply R_drewN | apply R_drew)); exact R_mono HO278.out (fun _ hk => hk.2)))
        (case aS => exact (below_size (by repeat with_reducible first | exact HB.out | apply below_alloc | apply pw_below_drewN | apply below_drew1 | refine below_set ?_ GE265.out | refine below_set ?_ GE266.out | refine below_set ?_ GE273.out | refine below_set ?_ GE275.out | refine below_set ?_ GE282.out)))
        (case aL => have := LMc19.out; omega)
        intro v280 w33 ho hb hg hat
        rw [← Ny279.out] at ho
        have n0_ := Aside0.mk (Kd.R_after (ok := (fun _ => True)) (by (with_reducible repeat (first | apply R_alloc | apply R_drewN | apply R_drew)); exact HO_274002.out) hg hat)
        have n1_ := Aside0.mk (Kd.R_after (ok := (fun k_ => some k_ ≠ (.slice Ao12 y270.length co12 : Value).ownBlock ∧ k_ ≠ gb275 ∧ k_ ≠ gb282)) (by (with_reducible repeat (first | apply R_alloc | apply R_drewN | apply R_drew)); exact R_mono HO_274003.out (fun _ hk => ⟨⟨hk.1.1.1, ⟨hk.1.1.2, hk.2⟩⟩, hk.1.2⟩)) hg hat)
        have n2_ := Aside0.mk (blk_grown (g := gb265) (o := .cells #[.int .i64 a0_0, .int .i64 a0_1, .slice A0_2 l0_2.length c0_2, .slice (some ad274) l0_3.length c0_3] 50 (0, 0)) (by (with_reducible repeat (first | refine blk_drewN ?_ _ | refine blk_drew ?_ | refine blk_alloc ?_ _)); exact BK265.out) hg (Kd.R_ne HO278.out BK265.out (by decide)))
        have n3_ := Aside0.mk (blk_grown (g := gb266) (o := .cells #[.int .i64 0, .int .i64 0, .slice none 0 0, .slice none 0 0] 50 (0, 0)) (by (with_reducible repeat (first | refine blk_drewN ?_ _ | refine blk_drew ?_ | refine blk_alloc ?_ _)); exact BK266.out) hg (Kd.R_ne HO278.out BK266.out (by decide)))
        have n4_ := Aside0.mk (blk_grown (g := gb273) (o := .cells #[.int .i64 a0_0, .int .i64 a0_1, .slice Ao12 y270.length co12, u274003] 50 (0, 0)) (by (with_reducible repeat (first | refine blk_drewN ?_ _ | refine blk_drew ?_ | refine blk_alloc ?_ _)); exact BK273.out) hg (Kd.R_ne HO278.out BK273.out (by decide)))
        have n5_ := Aside0.mk (blk_grown (g := gb275) (o := .cells #[.slice A274_0 ((rd_T56 l0_3 x4_1).f0).length c274_0, .slice A274_1 ((rd_T56 l0_3 x4_1).f1).length c274_1, .int .i64 ((rd_T56 l0_3 x4_1).f2.f0), .int .i64 ((rd_T56 l0_3 x4_1).f2.f1), .slice A274_4 ((rd_T56 l0_3 x4_1).f2.f2).length c274_4] 56 (0, 0)) (by (with_reducible repeat (first | refine blk_drewN ?_ _ | refine blk_drew ?_ | refine blk_alloc ?_ _)); exact BK275.out) hg (Kd.R_ne HO278.out BK275.out (by decide)))
        have n6_ := Aside0.mk (blk_grown (g := gb282) (o := .cells #[.slice none 0 0, .slice none 0 0, .int .i64 0, .int .i64 0, .slice none 0 0] 56 (0, 0)) (by (with_reducible repeat (first | refine blk_drewN ?_ _ | refine blk_drew ?_ | refine blk_alloc ?_ _)); exact BK282.out) hg (Kd.R_ne HO278.out BK282.out (by decide)))
        have n7_ := Aside0.mk (hb)
        have n8_ := Aside0.mk (ho)
        clear HO_274002
        clear HO_274003
        clear BK265
        clear BK266
        clear BK273
        clear BK275
        clear BK282
        clear HB
        clear HO278
        have HO_274002 := n0_
        have HO_274003 := n1_
        have BK265 := n2_
        have BK266 := n3_
        have BK273 := n4_
        have BK275 := n5_
        have BK282 := n6_
        have HB := n7_
        have HO281 := n8_
        clear n0_ n1_ n2_ n3_ n4_ n5_ n6_ n7_ n8_
        clear ho hb hg hat
        obtain ⟨Ao34, co34, eo34⟩ := Kd.R_slice HO281.out
        (first | subst eo34 | (injection eo34 with f1_ f2_ f3_; have f4_ := f1_.symm; have f5_ := f3_.symm; clear f1_ f2_ f3_; subst f4_; subst f5_))
        refine hK.out _ _ ⟨(blk_cell BK275.out 0).trans rfl, (blk_cell BK275.out 1).trans rfl, (blk_cell BK275.out 2).trans rfl, (blk_cell BK275.out 3).trans rfl, (blk_cell BK275.out 4).trans rfl⟩ (fun hHeld => ?_)
        clear hK K
        refine norm_ (a' := ?_) ?_ ?_
        rotate_left
        · show Act.put _ (some 41) _ = _
          simp only [Act.put, List.setIfInBounds_toArray, List.set_cons_zero, List.set_cons_succ, i64_w, i32_w]
          rfl
        refine pu 11 42 (bt 15 12287) HT_.out ?_
        refine pu 12 43 (bt 15 16383) HT_.out ?_
        exact norm_ (by simp only [putAll, Act.put, List.setIfInBounds_toArray, List.set_cons_zero, List.set_cons_succ]) (hCont (v277, .slice Ao34 y279.length co34, gb282) _ ⟨hHeld, (by (with_reducible repeat (first | apply R_alloc | apply R_drewN | apply R_drew)); exact HO281.out), (by (with_reducible repeat (first | apply R_alloc | apply R_drewN | apply R_drew)); exact R_mono HO_274002.out (fun _ hk => hk.2)), (by (with_reducible repeat (first | apply R_alloc | apply R_drewN | apply R_drew)); exact R_mono HO_274003.out (fun _ hk => ⟨hk.2, ⟨hk.1.1, ⟨hk.1.2.1, hk.1.2.2⟩⟩⟩)), (by (with_reducible repeat (first | refine blk_drewN ?_ _ | refine blk_drew ?_ | refine blk_alloc ?_ _)); exact BK265.out), (by (with_reducible repeat (first | refine blk_drewN ?_ _ | refine blk_drew ?_ | refine blk_alloc ?_ _)); exact BK266.out), (by (with_reducible repeat (first | refine blk_drewN ?_ _ | refine blk_drew ?_ | refine blk_alloc ?_ _)); exact BK273.out), (by (with_reducible repeat (first | refine blk_drewN ?_ _ | refine blk_drew ?_ | refine blk_alloc ?_ _)); exact BK275.out), (by (with_reducible repeat (first | refine blk_drewN ?_ _ | refine blk_drew ?_ | refine blk_alloc ?_ _)); exact BK282.out), GW282.out, GE282.out, NB265_282.out, NB282_265.out, NB266_282.out, NB282_266.out, NB273_282.out, NB282_273.out, NB275_282.out, NB282_275.out, (by repeat with_reducible first | exact HB.out | apply below_alloc | apply pw_below_drewN | apply below_drew1 | refine below_set ?_ GE265.out | refine below_set ?_ GE266.out | refine below_set ?_ GE273.out | refine below_set ?_ GE275.out | refine below_set ?_ GE282.out)⟩)
      skip
      refine box_step ?hg (N := 6) ?hd (cs := #[.slice none 0 0, .slice none 0 0, .int .i64 0, .int .i64 0, .slice none 0 0]) (t := 56) ?hr ?_; (case hd => rfl); (case hg => rfl); (case hr => first | (go_simp; done) | (go_simp; rfl))
      intro gb282 hg w30 hbox hb
      have n0_ := Aside0.mk (Kd.R_below (by (with_reducible repeat (first | apply R_alloc | apply R_drewN | apply R_drew)); exact HO_274002.out) hb)
      have n1_ := Aside0.mk (Kd.R_below (Kd.R_elderB (by (with_reducible repeat (first | apply R_alloc | apply R_drewN | apply R_drew)); exact HO_274003.out) gb282 (Nat.le_of_eq hg.symm)) hb)
      have n2_ := Aside0.mk (blk_below (g := gb265) (o := .cells #[.int .i64 a0_0, .int .i64 a0_1, .slice A0_2 l0_2.length c0_2, .slice (some ad274) l0_3.length c0_3] 50 (0, 0)) (by (with_reducible repeat (first | refine blk_drewN ?_ _ | refine blk_drew ?_ | refine blk_alloc ?_ _)); exact BK265.out) hb)
      have n3_ := Aside0.mk (blk_below (g := gb266) (o := .cells #[.int .i64 0, .int .i64 0, .slice none 0 0, .slice none 0 0] 50 (0, 0)) (by (with_reducible repeat (first | refine blk_drewN ?_ _ | refine blk_drew ?_ | refine blk_alloc ?_ _)); exact BK266.out) hb)
      have n4_ := Aside0.mk (blk_below (g := gb273) (o := .cells #[.int .i64 a0_0, .int .i64 a0_1, .slice Ao12 y270.length co12, u274003] 50 (0, 0)) (by (with_reducible repeat (first | refine blk_drewN ?_ _ | refine blk_drew ?_ | refine blk_alloc ?_ _)); exact BK273.out) hb)
      have n5_ := Aside0.mk (blk_below (g := gb275) (o := .cells #[.slice A274_0 ((rd_T56 l0_3 x4_1).f0).length c274_0, .slice A274_1 ((rd_T56 l0_3 x4_1).f1).length c274_1, .int .i64 ((rd_T56 l0_3 x4_1).f2.f0), .int .i64 ((rd_T56 l0_3 x4_1).f2.f1), .slice A274_4 ((rd_T56 l0_3 x4_1).f2.f2).length c274_4] 56 (0, 0)) (by (with_reducible repeat (first | refine blk_drewN ?_ _ | refine blk_drew ?_ | refine blk_alloc ?_ _)); exact BK275.out) hb)
      have n6_ := Aside0.mk (below_step (by repeat with_reducible first | exact HB.out | apply below_alloc | apply pw_below_drewN | apply below_drew1 | refine below_set ?_ GE265.out | refine below_set ?_ GE266.out | refine below_set ?_ GE273.out | refine below_set ?_ GE275.out) hb)
      have n7_ := Aside0.mk (hbox)
      have n8_ := Aside0.mk ((by rw [hg]; exact (below_size (by repeat with_reducible first | exact HB.out | apply below_alloc | apply pw_below_drewN | apply below_drew1 | refine below_set ?_ GE265.out | refine below_set ?_ GE266.out | refine below_set ?_ GE273.out | refine below_set ?_ GE275.out)) : w.heap.size ≤ gb282))
      have n9_ := Aside0.mk ((by rw [hg]; exact (below_size (by repeat with_reducible first | exact HB.out | apply below_alloc | apply pw_below_drewN | apply below_drew1 | refine below_set ?_ GE265.out | refine below_set ?_ GE266.out | refine below_set ?_ GE273.out | refine below_set ?_ GE275.out)) : w.heap.size ≤ gb282))
      have n10_ := Aside0.mk ((by rw [hg]; exact Nat.ne_of_lt (blk_lt (g := gb265) (o := .cells #[.int .i64 a0_0, .int .i64 a0_1, .slice A0_2 l0_2.length c0_2, .slice (some ad274) l0_3.length c0_3] 50 (0, 0)) (by (with_reducible repeat (first | refine blk_drewN ?_ _ | refine blk_drew ?_ | refine blk_alloc ?_ _)); exact BK265.out)) : gb265 ≠ gb282))
      have n11_ := Aside0.mk ((by rw [hg]; exact Nat.ne_of_gt (blk_lt (g := gb265) (o := .cells #[.int .i64 a0_0, .int .i64 a0_1, .slice A0_2 l0_2.length c0_2, .slice (some ad274) l0_3.length c0_3] 50 (0, 0)) (by (with_reducible repeat (first | refine blk_drewN ?_ _ | refine blk_drew ?_ | refine blk_alloc ?_ _)); exact BK265.out)) : gb282 ≠ gb265))
      have n12_ := Aside0.mk ((by rw [hg]; exact Nat.ne_of_lt (blk_lt (g := gb266) (o := .cells #[.int .i64 0, .int .i64 0, .slice none 0 0, .slice none 0 0] 50 (0, 0)) (by (with_reducible repeat (first | refine blk_drewN ?_ _ | refine blk_drew ?_ | refine blk_alloc ?_ _)); exact BK266.out)) : gb266 ≠ gb282))
      have n13_ := Aside0.mk ((by rw [hg]; exact Nat.ne_of_gt (blk_lt (g := gb266) (o := .cells #[.int .i64 0, .int .i64 0, .slice none 0 0, .slice none 0 0] 50 (0, 0)) (by (with_reducible repeat (first | refine blk_drewN ?_ _ | refine blk_drew ?_ | refine blk_alloc ?_ _)); exact BK266.out)) : gb282 ≠ gb266))
      have n14_ := Aside0.mk ((by rw [hg]; exact Nat.ne_of_lt (blk_lt (g := gb273) (o := .cells #[.int .i64 a0_0, .int .i64 a0_1, .slice Ao12 y270.length co12, u274003] 50 (0, 0)) (by (with_reducible repeat (first | refine blk_drewN ?_ _ | refine blk_drew ?_ | refine blk_alloc ?_ _)); exact BK273.out)) : gb273 ≠ gb282))
      have n15_ := Aside0.mk ((by rw [hg]; exact Nat.ne_of_gt (blk_lt (g := gb273) (o := .cells #[.int .i64 a0_0, .int .i64 a0_1, .slice Ao12 y270.length co12, u274003] 50 (0, 0)) (by (with_reducible repeat (first | refine blk_drewN ?_ _ | refine blk_drew ?_ | refine blk_alloc ?_ _)); exact BK273.out)) : gb282 ≠ gb273))
      have n16_ := Aside0.mk ((by rw [hg]; exact Nat.ne_of_lt (blk_lt (g := gb275) (o := .cells #[.slice A274_0 ((rd_T56 l0_3 x4_1).f0).length c274_0, .slice A274_1 ((rd_T56 l0_3 x4_1).f1).length c274_1, .int .i64 ((rd_T56 l0_3 x4_1).f2.f0), .int .i64 ((rd_T56 l0_3 x4_1).f2.f1), .slice A274_4 ((rd_T56 l0_3 x4_1).f2.f2).length c274_4] 56 (0, 0)) (by (with_reducible repeat (first | refine blk_drewN ?_ _ | refine blk_drew ?_ | refine blk_alloc ?_ _)); exact BK275.out)) : gb275 ≠ gb282))
      have n17_ := Aside0.mk ((by rw [hg]; exact Nat.ne_of_gt (blk_lt (g := gb275) (o := .cells #[.slice A274_0 ((rd_T56 l0_3 x4_1).f0).length c274_0, .slice A274_1 ((rd_T56 l0_3 x4_1).f1).length c274_1, .int .i64 ((rd_T56 l0_3 x4_1).f2.f0), .int .i64 ((rd_T56 l0_3 x4_1).f2.f1), .slice A274_4 ((rd_T56 l0_3 x4_1).f2.f2).length c274_4] 56 (0, 0)) (by (with_reducible repeat (first | refine blk_drewN ?_ _ | refine blk_drew ?_ | refine blk_alloc ?_ _)); exact BK275.out)) : gb282 ≠ gb275))
      clear HO_274002
      clear HO_274003
      clear BK265
      clear BK266
      clear BK273
      clear BK275
      clear HB
      have HO_274002 := n0_
      have HO_274003 := n1_
      have BK265 := n2_
      have BK266 := n3_
      have BK273 := n4_
      have BK275 := n5_
      have HB := n6_
      have BK282 := n7_
      have GW282 := n8_
      have GE282 := n9_
      have NB265_282 := n10_
      have NB282_265 := n11_
      have NB266_282 := n12_
      have NB282_266 := n13_
      have NB273_282 := n14_
      have NB282_273 := n15_
      have NB275_282 := n16_
      have NB282_275 := n17_
      clear n0_ n1_ n2_ n3_ n4_ n5_ n6_ n7_ n8_ n9_ n10_ n11_ n12_ n13_ n14_ n15_ n16_ n17_
      clear hb hbox hg
      refine hK.out _ _ ⟨(blk_cell BK275.out 0).trans rfl, (blk_cell BK275.out 1).trans rfl, (blk_cell BK275.out 2).trans rfl, (blk_cell BK275.out 3).trans rfl, (blk_cell BK275.out 4).trans rfl⟩ (fun hHeld => ?_)
      clear hK K
      refine norm_ (a' := ?_) ?_ ?_
      rotate_left
      · show Act.put _ (some 6) _ = _
        simp only [Act.put, List.setIfInBounds_toArray, List.set_cons_zero, List.set_cons_succ, i64_w, i32_w]
        rfl
      refine one_ (i := 6) (N := some 37) (bt 15 9215) rfl rfl (one_of HT_.out (by kernel_rfl)) (by decide) (fun K hK => ?_)
      refine Kd.R_lit_step (Kd.int .i64) _ 3 ?hg (N := 37) ?hd (xs := ([] : List Int)) (inner := []) (ok := fun _ => True) (okp := fun _ => True) ?hr ?hp (fun _ hk => hk) trivial (Below.refl _ _) (Nat.le_refl _) (by simp) ?_; (case hd => rfl); (case hg => rfl); (case hr => first | (go_simp; done) | (go_simp; rfl)); (case hp => exact (Reps.none _ _))
      intro v277 w31 ho32 hb hg_ hnew_
      clear hg_ hnew_
      rw [← Ny276.out] at ho32
      have n0_ := Aside0.mk (R_elder' (by (with_reducible repeat (first | apply R_alloc | apply R_drewN | apply R_drew)); exact HO_274002.out) (R_base ho32) hb)
      have n1_ := Aside0.mk (R_elder' (by (with_reducible repeat (first | apply R_alloc | apply R_drewN | apply R_drew)); exact HO_274003.out) (R_base ho32) hb)
      have n2_ := Aside0.mk (Kd.R_lower (R_new' ho32 (R_lt (by (with_reducible repeat (first | apply R_alloc | apply R_drewN | apply R_drew)); exact HO_274002.out))) (below_size (by repeat with_reducible first | exact HB.out | apply below_alloc | apply pw_below_drewN | apply below_drew1 | refine below_set ?_ GE265.out | refine below_set ?_ GE266.out | refine below_set ?_ GE273.out | refine below_set ?_ GE275.out | refine below_set ?_ GE282.out)))
      have n3_ := Aside0.mk (blk_below (g := gb265) (o := .cells #[.int .i64 a0_0, .int .i64 a0_1, .slice A0_2 l0_2.length c0_2, .slice (some ad274) l0_3.length c0_3] 50 (0, 0)) (by (with_reducible repeat (first | refine blk_drewN ?_ _ | refine blk_drew ?_ | refine blk_alloc ?_ _)); exact BK265.out) hb)
      have n4_ := Aside0.mk (blk_below (g := gb266) (o := .cells #[.int .i64 0, .int .i64 0, .slice none 0 0, .slice none 0 0] 50 (0, 0)) (by (with_reducible repeat (first | refine blk_drewN ?_ _ | refine blk_drew ?_ | refine blk_alloc ?_ _)); exact BK266.out) hb)
      have n5_ := Aside0.mk (blk_below (g := gb273) (o := .cells #[.int .i64 a0_0, .int .i64 a0_1, .slice Ao12 y270.length co12, u274003] 50 (0, 0)) (by (with_reducible repeat (first | refine blk_drewN ?_ _ | refine blk_drew ?_ | refine blk_alloc ?_ _)); exact BK273.out) hb)
      have n6_ := Aside0.mk (blk_below (g := gb275) (o := .cells #[.slice A274_0 ((rd_T56 l0_3 x4_1).f0).length c274_0, .slice A274_1 ((rd_T56 l0_3 x4_1).f1).length c274_1, .int .i64 ((rd_T56 l0_3 x4_1).f2.f0), .int .i64 ((rd_T56 l0_3 x4_1).f2.f1), .slice A274_4 ((rd_T56 l0_3 x4_1).f2.f2).length c274_4] 56 (0, 0)) (by (with_reducible repeat (first | refine blk_drewN ?_ _ | refine blk_drew ?_ | refine blk_alloc ?_ _)); exact BK275.out) hb)
      have n7_ := Aside0.mk (blk_below (g := gb282) (o := .cells #[.slice none 0 0, .slice none 0 0, .int .i64 0, .int .i64 0, .slice none 0 0] 56 (0, 0)) (by (with_reducible repeat (first | refine blk_drewN ?_ _ | refine blk_drew ?_ | refine blk_alloc ?_ _)); exact BK282.out) hb)
      have n8_ := Aside0.mk (below_step (by repeat with_reducible first | exact HB.out | apply below_alloc | apply pw_below_drewN | apply below_drew1 | refine below_set ?_ GE265.out | refine below_set ?_ GE266.out | refine below_set ?_ GE273.out | refine below_set ?_ GE275.out | refine below_set ?_ GE282.out) hb)
      clear HO_274002
      clear HO_274003
      clear BK265
      clear BK266
      clear BK273
      clear BK275
      clear BK282
      clear HB
      have HO_274002 := n0_
      have HO_274003 := n1_
      have HO278 := n2_
      have BK265 := n3_
      have BK266 := n4_
      have BK273 := n5_
      have BK275 := n6_
      have BK282 := n7_
      have HB := n8_
      clear n0_ n1_ n2_ n3_ n4_ n5_ n6_ n7_ n8_
      clear hb ho32
      refine hK.out _ _ ⟨(blk_cell BK275.out 0).trans rfl, (blk_cell BK275.out 1).trans rfl, (blk_cell BK275.out 2).trans rfl, (blk_cell BK275.out 3).trans rfl, (blk_cell BK275.out 4).trans rfl⟩ (fun hHeld => ?_)
      clear hK K
      refine norm_ (a' := ?_) ?_ ?_
      rotate_left
      · show Act.put _ (some 37) _ = _
        simp only [Act.put, List.setIfInBounds_toArray, List.set_cons_zero, List.set_cons_succ, i64_w, i32_w]
        rfl
      refine one_ (i := 10) (N := some 41) (bt 15 10239) rfl rfl (one_of HT_.out (by kernel_rfl)) (by decide) (fun K hK => ?_)
      refine Kd.R_append_rows_step (Kd.int .i64) (w0 := w) w.heap.size (by rfl) (.tmp 37) (.tmp 40) 47 3 (.int .i64 0) 8 rfl Tryd.underlying47 info3 rfl (by decide) (by omega) v277 y276 ((rd_T56 l0_3 x4_1).f2.f2) _ _ _ (fun k_ => some k_ ≠ (.slice Ao12 y270.length co12 : Value).ownBlock) (fun _ => False) rfl rfl ?aO ?aR (fun _ _ h => h) (fun _ h => h.elim) ?aF ?aB ?aS ?aL ?_
      (case aR => repeat (first | exact (C_below HR274_4.out HB.out) | (with_reducible refine C_alloc ?_ _) | (with_reducible refine C_drewN ?_ _) | (with_reducible refine C_drew ?_)))
      (case aB => exact (by repeat with_reducible first | exact HB.out | apply below_alloc | apply pw_below_drewN | apply below_drew1 | refine below_set ?_ GE265.out | refine below_set ?_ GE266.out | refine below_set ?_ GE273.out | refine below_set ?_ GE275.out | refine below_set ?_ GE282.out))
      (case aF => exact (fun k_ hk => Kd.fresh' (R_lt (by (with_reducible repeat (first | apply R_alloc | apply R_drewN | apply R_drew)); exact HO_274002.out)) k_ hk))
      (case aO => exact (by (with_reducible repeat (first | apply R_alloc | apply R_drewN | apply R_drew)); exact R_mono HO278.out (fun _ hk => hk.2)))
      (case aS => exact (below_size (by repeat with_reducible first | exact HB.out | apply below_alloc | apply pw_below_drewN | apply below_drew1 | refine below_set ?_ GE265.out | refine below_set ?_ GE266.out | refine below_set ?_ GE273.out | refine below_set ?_ GE275.out | refine below_set ?_ GE282.out)))
      (case aL => have := LMc19.out; omega)
      intro v280 w33 ho hb hg hat
      rw [← Ny279.out] at ho
      have n0_ := Aside0.mk (Kd.R_after (ok := (fun _ => True)) (by (with_reducible repeat (first | apply R_alloc | apply R_drewN | apply R_drew)); exact HO_274002.out) hg hat)
      have n1_ := Aside0.mk (Kd.R_after (ok := (fun k_ => some k_ ≠ (.slice Ao12 y270.length co12 : Value).ownBlock ∧ k_ ≠ gb275 ∧ k_ ≠ gb282)) (by (with_reducible repeat (first | apply R_alloc | apply R_drewN | apply R_drew)); exact R_mono HO_274003.out (fun _ hk => ⟨⟨hk.1.1.1, ⟨hk.1.1.2, hk.1.2⟩⟩, hk.2⟩)) hg hat)
      have n2_ := Aside0.mk (blk_grown (g := gb265) (o := .cells #[.int .i64 a0_0, .int .i64 a0_1, .slice A0_2 l0_2.length c0_2, .slice (some ad274) l0_3.length c0_3] 50 (0, 0)) (by (with_reducible repeat (first | refine blk_drewN ?_ _ | refine blk_drew ?_ | refine blk_alloc ?_ _)); exact BK265.out) hg (Kd.R_ne HO278.out BK265.out (by decide)))
      have n3_ := Aside0.mk (blk_grown (g := gb266) (o := .cells #[.int .i64 0, .int .i64 0, .slice none 0 0, .slice none 0 0] 50 (0, 0)) (by (with_reducible repeat (first | refine blk_drewN ?_ _ | refine blk_drew ?_ | refine blk_alloc ?_ _)); exact BK266.out) hg (Kd.R_ne HO278.out BK266.out (by decide)))
      have n4_ := Aside0.mk (blk_grown (g := gb273) (o := .cells #[.int .i64 a0_0, .int .i64 a0_1, .slice Ao12 y270.length co12, u274003] 50 (0, 0)) (by (with_reducible repeat (first | refine blk_drewN ?_ _ | refine blk_drew ?_ | refine blk_alloc ?_ _)); exact BK273.out) hg (Kd.R_ne HO278.out BK273.out (by decide)))
      have n5_ := Aside0.mk (blk_grown (g := gb275) (o := .cells #[.slice A274_0 ((rd_T56 l0_3 x4_1).f0).length c274_0, .slice A274_1 ((rd_T56 l0_3 x4_1).f1).length c274_1, .int .i64 ((rd_T56 l0_3 x4_1).f2.f0), .int .i64 ((rd_T56 l0_3 x4_1).f2.f1), .slice A274_4 ((rd_T56 l0_3 x4_1).f2.f2).length c274_4] 56 (0, 0)) (by (with_reducible repeat (first | refine blk_drewN ?_ _ | refine blk_drew ?_ | refine blk_alloc ?_ _)); exact BK275.out) hg (Kd.R_ne HO278.out BK275.out (by decide)))
      have n6_ := Aside0.mk (blk_grown (g := gb282) (o := .cells #[.slice none 0 0, .slice none 0 0, .int .i64 0, .int .i64 0, .slice none 0 0] 56 (0, 0)) (by (with_reducible repeat (first | refine blk_drewN ?_ _ | refine blk_drew ?_ | refine blk_alloc ?_ _)); exact BK282.out) hg (Kd.R_ne HO278.out BK282.out (by decide)))
      have n7_ := Aside0.mk (hb)
      have n8_ := Aside0.mk (ho)
      clear HO_274002
      clear HO_274003
      clear BK265
      clear BK266
      clear BK273
      clear BK275
      clear BK282
      clear HB
      clear HO278
      have HO_274002 := n0_
      have HO_274003 := n1_
      have BK265 := n2_
      have BK266 := n3_
      have BK273 := n4_
      have BK275 := n5_
      have BK282 := n6_
      have HB := n7_
      have HO281 := n8_
      clear n0_ n1_ n2_ n3_ n4_ n5_ n6_ n7_ n8_
      clear ho hb hg hat
      obtain ⟨Ao34, co34, eo34⟩ := Kd.R_slice HO281.out
      (first | subst eo34 | (injection eo34 with f1_ f2_ f3_; have f4_ := f1_.symm; have f5_ := f3_.symm; clear f1_ f2_ f3_; subst f4_; subst f5_))
      refine hK.out _ _ ⟨(blk_cell BK275.out 0).trans rfl, (blk_cell BK275.out 1).trans rfl, (blk_cell BK275.out 2).trans rfl, (blk_cell BK275.out 3).trans rfl, (blk_cell BK275.out 4).trans rfl⟩ (fun hHeld => ?_)
      clear hK K
      refine norm_ (a' := ?_) ?_ ?_
      rotate_left
      · show Act.put _ (some 41) _ = _
        simp only [Act.put, List.setIfInBounds_toArray, List.set_cons_zero, List.set_cons_succ, i64_w, i32_w]
        rfl
      refine pu 11 42 (bt 15 12287) HT_.out ?_
      refine pu 12 43 (bt 15 16383) HT_.out ?_
      exact norm_ (by simp only [putAll, Act.put, List.setIfInBounds_toArray, List.set_cons_zero, List.set_cons_succ]) (hCont (v277, .slice Ao34 y279.length co34, gb282) _ ⟨hHeld, (by (with_reducible repeat (first | apply R_alloc | apply R_drewN | apply R_drew)); exact HO281.out), (by (with_reducible repeat (first | apply R_alloc | apply R_drewN | apply R_drew)); exact R_mono HO_274002.out (fun _ hk => hk.2)), (by (with_reducible repeat (first | apply R_alloc | apply R_drewN | apply R_drew)); exact R_mono HO_274003.out (fun _ hk => ⟨hk.2, ⟨hk.1.1, ⟨hk.1.2.1, hk.1.2.2⟩⟩⟩)), (by (with_reducible repeat (first | refine blk_drewN ?_ _ | refine blk_drew ?_ | refine blk_alloc ?_ _)); exact BK265.out), (by (with_reducible repeat (first | refine blk_drewN ?_ _ | refine blk_drew ?_ | refine blk_alloc ?_ _)); exact BK266.out), (by (with_reducible repeat (first | refine blk_drewN ?_ _ | refine blk_drew ?_ | refine blk_alloc ?_ _)); exact BK273.out), (by (with_reducible repeat (first | refine blk_drewN ?_ _ | refine blk_drew ?_ | refine blk_alloc ?_ _)); exact BK275.out), (by (with_reducible repeat (first | refine blk_drewN ?_ _ | refine blk_drew ?_ | refine blk_alloc ?_ _)); exact BK282.out), GW282.out, GE282.out, NB265_282.out, NB282_265.out, NB266_282.out, NB282_266.out, NB273_282.out, NB282_273.out, NB275_282.out, NB282_275.out, (by repeat with_reducible first | exact HB.out | apply below_alloc | apply pw_below_drewN | apply below_drew1 | refine below_set ?_ GE265.out | refine below_set ?_ GE266.out | refine below_set ?_ GE273.out | refine below_set ?_ GE275.out | refine below_set ?_ GE282.out)⟩)
    rintro ⟨v277, v280, gb282⟩ w35 ⟨hS_, h0_, h1_, h2_, h3_, h4_, h5_, h6_, h7_, h8_, h9_, h10_, h11_, h12_, h13_, h14_, h15_, h16_, h17_, h18_⟩
    have n0_ : Aside0 (Kd.R (Kd.int .i64) 3 w35 w.heap.size (fun k_ => some k_ ≠ (.slice Ao12 y270.length co12 : Value).ownBlock) v280 y279) := ⟨h0_⟩
    have n1_ : Aside0 (Kd.R (Kd.int .i64) 3 w35 w.heap.size (fun k_ => some k_ ≠ (v280 : Value).ownBlock) (.slice Ao12 y270.length co12) y270) := ⟨h1_⟩
    have n2_ : Aside0 (Kd.R k56 56 w35 w.heap.size (fun k_ => some k_ ≠ (v280 : Value).ownBlock ∧ some k_ ≠ (.slice Ao12 y270.length co12 : Value).ownBlock ∧ k_ ≠ gb275 ∧ k_ ≠ gb282) u274003 x274003_1) := ⟨h2_⟩
    have n3_ : Aside0 (w35.heap[gb265]? = some (.cells #[.int .i64 a0_0, .int .i64 a0_1, .slice A0_2 l0_2.length c0_2, .slice (some ad274) l0_3.length c0_3] 50 (0, 0))) := ⟨h3_⟩
    have n4_ : Aside0 (w35.heap[gb266]? = some (.cells #[.int .i64 0, .int .i64 0, .slice none 0 0, .slice none 0 0] 50 (0, 0))) := ⟨h4_⟩
    have n5_ : Aside0 (w35.heap[gb273]? = some (.cells #[.int .i64 a0_0, .int .i64 a0_1, .slice Ao12 y270.length co12, u274003] 50 (0, 0))) := ⟨h5_⟩
    have n6_ : Aside0 (w35.heap[gb275]? = some (.cells #[.slice A274_0 ((rd_T56 l0_3 x4_1).f0).length c274_0, .slice A274_1 ((rd_T56 l0_3 x4_1).f1).length c274_1, .int .i64 ((rd_T56 l0_3 x4_1).f2.f0), .int .i64 ((rd_T56 l0_3 x4_1).f2.f1), .slice A274_4 ((rd_T56 l0_3 x4_1).f2.f2).length c274_4] 56 (0, 0))) := ⟨h6_⟩
    have n7_ : Aside0 (w35.heap[gb282]? = some (.cells #[.slice none 0 0, .slice none 0 0, .int .i64 0, .int .i64 0, .slice none 0 0] 56 (0, 0))) := ⟨h7_⟩
    have n8_ : Aside0 (w.heap.size ≤ gb282) := ⟨h8_⟩
    have n9_ : Aside0 (w.heap.size ≤ gb282) := ⟨h9_⟩
    have n10_ : Aside0 (gb265 ≠ gb282) := ⟨h10_⟩
    have n11_ : Aside0 (gb282 ≠ gb265) := ⟨h11_⟩
    have n12_ : Aside0 (gb266 ≠ gb282) := ⟨h12_⟩
    have n13_ : Aside0 (gb282 ≠ gb266) := ⟨h13_⟩
    have n14_ : Aside0 (gb273 ≠ gb282) := ⟨h14_⟩
    have n15_ : Aside0 (gb282 ≠ gb273) := ⟨h15_⟩
    have n16_ : Aside0 (gb275 ≠ gb282) := ⟨h16_⟩
    have n17_ : Aside0 (gb282 ≠ gb275) := ⟨h17_⟩
    have n18_ : Aside0 (Below w.heap.size w w35) := ⟨h18_⟩
    clear HO_274002
    clear HO_274003
    clear BK265
    clear BK266
    clear BK273
    clear BK275
    clear HB
    clear h0_ h1_ h2_ h3_ h4_ h5_ h6_ h7_ h8_ h9_ h10_ h11_ h12_ h13_ h14_ h15_ h16_ h17_ h18_
    have HO281 := n0_
    have HO_274002 := n1_
    have HO_274003 := n2_
    have BK265 := n3_
    have BK266 := n4_
    have BK273 := n5_
    have BK275 := n6_
    have BK282 := n7_
    have GW282 := n8_
    have GE282 := n9_
    have NB265_282 := n10_
    have NB282_265 := n11_
    have NB266_282 := n12_
    have NB282_266 := n13_
    have NB273_282 := n14_
    have NB282_273 := n15_
    have NB275_282 := n16_
    have NB282_275 := n17_
    have HB := n18_
    clear n0_ n1_ n2_ n3_ n4_ n5_ n6_ n7_ n8_ n9_ n10_ n11_ n12_ n13_ n14_ n15_ n16_ n17_ n18_
    have hHeld : w35.cell? ⟨gb275, 0, none⟩ = some (.slice A274_0 ((rd_T56 l0_3 x4_1).f0).length c274_0) ∧ w35.cell? ⟨gb275, 1, none⟩ = some (.slice A274_1 ((rd_T56 l0_3 x4_1).f1).length c274_1) ∧ w35.cell? ⟨gb275, 2, none⟩ = some (.int .i64 ((rd_T56 l0_3 x4_1).f2.f0)) ∧ w35.cell? ⟨gb275, 3, none⟩ = some (.int .i64 ((rd_T56 l0_3 x4_1).f2.f1)) ∧ w35.cell? ⟨gb275, 4, none⟩ = some (.slice A274_4 ((rd_T56 l0_3 x4_1).f2.f2).length c274_4) := hS_
    obtain ⟨Ao36, co36, eo36⟩ := Kd.R_slice HO281.out
    (first | subst eo36 | (injection eo36 with f1_ f2_ f3_; have f4_ := f1_.symm; have f5_ := f3_.symm; clear f1_ f2_ f3_; subst f4_; subst f5_))
    refine norm_ (a' := ?_) ?_ ?_
    rotate_left
    · simp only [putAll, Act.put, List.setIfInBounds_toArray, List.set_cons_zero, List.set_cons_succ]
      rfl
    refine one_ (i := 14) (N := none) (bt 15 32767) rfl rfl (one_of HT_.out (by kernel_rfl)) (by decide) (fun K hK => ?_)
    have hs37 : w35.cell? ⟨gb282, 0, none⟩ = some (.slice none 0 0) := (blk_cell BK282.out 0).trans rfl
    have hfs37 := blk_frozen BK282.out 0
    have hns37_0 := NB265_282.out
    have hns37_1 := NB266_282.out
    have hns37_2 := NB273_282.out
    have hns37_3 := NB275_282.out
    have hms37_0 := NB282_265.out
    have hms37_1 := NB282_266.out
    have hms37_2 := NB282_273.out
    have hms37_3 := NB282_275.out
    have hs38 : w35.cell? ⟨gb282, 1, none⟩ = some (.slice none 0 0) := (blk_cell BK282.out 1).trans rfl
    have hfs38 := blk_frozen BK282.out 1
    have hns38_0 := NB265_282.out
    have hns38_1 := NB266_282.out
    have hns38_2 := NB273_282.out
    have hns38_3 := NB275_282.out
    have hms38_0 := NB282_265.out
    have hms38_1 := NB282_266.out
    have hms38_2 := NB282_273.out
    have hms38_3 := NB282_275.out
    have hs39 : w35.cell? ⟨gb282, 2, none⟩ = some (.int .i64 0) := (blk_cell BK282.out 2).trans rfl
    have hfs39 := blk_frozen BK282.out 2
    have hns39_0 := NB265_282.out
    have hns39_1 := NB266_282.out
    have hns39_2 := NB273_282.out
    have hns39_3 := NB275_282.out
    have hms39_0 := NB282_265.out
    have hms39_1 := NB282_266.out
    have hms39_2 := NB282_273.out
    have hms39_3 := NB282_275.out
    have hs40 : w35.cell? ⟨gb282, 3, none⟩ = some (.int .i64 0) := (blk_cell BK282.out 3).trans rfl
    have hfs40 := blk_frozen BK282.out 3
    have hns40_0 := NB265_282.out
    have hns40_1 := NB266_282.out
    have hns40_2 := NB273_282.out
    have hns40_3 := NB275_282.out
    have hms40_0 := NB282_265.out
    have hms40_1 := NB282_266.out
    have hms40_2 := NB282_273.out
    have hms40_3 := NB282_275.out
    have hs41 : w35.cell? ⟨gb282, 4, none⟩ = some (.slice none 0 0) := (blk_cell BK282.out 4).trans rfl
    have hfs41 := blk_frozen BK282.out 4
    have hns41_0 := NB265_282.out
    have hns41_1 := NB266_282.out
    have hns41_2 := NB273_282.out
    have hns41_3 := NB275_282.out
    have hms41_0 := NB282_265.out
    have hms41_1 := NB282_266.out
    have hms41_2 := NB282_273.out
    have hms41_3 := NB282_275.out
    refine skip_ (w1 := ?_) (by rfl) rfl ?_ ?_
    rotate_left
    · go_simp
      rfl
    refine hK.out _ _ ⟨((cell_far (p := ⟨gb282, _, none⟩) NB275_282.out _).trans (((cell_far (p := ⟨gb282, _, none⟩) NB275_282.out _).trans (((cell_far (p := ⟨gb282, _, none⟩) NB275_282.out _).trans (((cell_far (p := ⟨gb282, _, none⟩) NB275_282.out _).trans (((cell_far (p := ⟨gb282, _, none⟩) NB275_282.out _).trans (hHeld.1)))))))))), ((cell_far (p := ⟨gb282, _, none⟩) NB275_282.out _).trans (((cell_far (p := ⟨gb282, _, none⟩) NB275_282.out _).trans (((cell_far (p := ⟨gb282, _, none⟩) NB275_282.out _).trans (((cell_far (p := ⟨gb282, _, none⟩) NB275_282.out _).trans (((cell_far (p := ⟨gb282, _, none⟩) NB275_282.out _).trans (hHeld.2.1)))))))))), ((cell_far (p := ⟨gb282, _, none⟩) NB275_282.out _).trans (((cell_far (p := ⟨gb282, _, none⟩) NB275_282.out _).trans (((cell_far (p := ⟨gb282, _, none⟩) NB275_282.out _).trans (((cell_far (p := ⟨gb282, _, none⟩) NB275_282.out _).trans (((cell_far (p := ⟨gb282, _, none⟩) NB275_282.out _).trans (hHeld.2.2.1)))))))))), ((cell_far (p := ⟨gb282, _, none⟩) NB275_282.out _).trans (((cell_far (p := ⟨gb282, _, none⟩) NB275_282.out _).trans (((cell_far (p := ⟨gb282, _, none⟩) NB275_282.out _).trans (((cell_far (p := ⟨gb282, _, none⟩) NB275_282.out _).trans (((cell_far (p := ⟨gb282, _, none⟩) NB275_282.out _).trans (hHeld.2.2.2.1)))))))))), ((cell_far (p := ⟨gb282, _, none⟩) NB275_282.out _).trans (((cell_far (p := ⟨gb282, _, none⟩) NB275_282.out _).trans (((cell_far (p := ⟨gb282, _, none⟩) NB275_282.out _).trans (((cell_far (p := ⟨gb282, _, none⟩) NB275_282.out _).trans (((cell_far (p := ⟨gb282, _, none⟩) NB275_282.out _).trans (hHeld.2.2.2.2))))))))))⟩ (fun hHeld => ?_)
    clear hK K
    refine done_ (done_of HT_.out (by kernel_rfl)) ?_
    try go_wp2
    go_loopg [7] k1 (fun kq v7 w' => ∃ (x7_2 : Int) (x283000_2 : List (S60)) (u283000 : Value), v7 = .int .i64 x7_2 ∧ Aside0 (fettleref02_CopyFunc.l1 kq x4_1 x7_2 a0_0 a0_1 l0_2 l0_3 a0_0 a0_1 y270 x274003_1 ((rd_T56 l0_3 x4_1).f0) ((rd_T56 l0_3 x4_1).f1) ((rd_T56 l0_3 x4_1).f2.f0) ((rd_T56 l0_3 x4_1).f2.f1) ((rd_T56 l0_3 x4_1).f2.f2) x283000_2 ((rd_T56 l0_3 x4_1).f2.f0) ((rd_T56 l0_3 x4_1).f2.f1) y279 = some (r1, r2, r3, r4)) ∧ Aside0 (kq ≤ k1) ∧ Aside0 (Kd.R (Kd.int .i64) 3 w' w.heap.size (fun k_ => some k_ ≠ ((.slice Ao36 y279.length co36) : Value).ownBlock) (.slice Ao12 y270.length co12) y270) ∧ Aside0 (Kd.R k56 56 w' w.heap.size (fun k_ => some k_ ≠ ((.slice Ao12 y270.length co12) : Value).ownBlock ∧ some k_ ≠ (u283000 : Value).ownBlock ∧ some k_ ≠ ((.slice Ao36 y279.length co36) : Value).ownBlock ∧ k_ ≠ gb275 ∧ k_ ≠ gb282) u274003 x274003_1) ∧ Aside0 (Kd.S k60 60 w' w.heap.size (fun k_ => some k_ ≠ ((.slice Ao12 y270.length co12) : Value).ownBlock ∧ some k_ ≠ ((.slice Ao36 y279.length co36) : Value).ownBlock) u283000 x283000_2) ∧ Aside0 (Kd.R (Kd.int .i64) 3 w' w.heap.size (fun k_ => some k_ ≠ ((.slice Ao12 y270.length co12) : Value).ownBlock) (.slice Ao36 y279.length co36) y279) ∧ Aside0 (w'.heap[gb265]? = some (.cells #[.int .i64 a0_0, .int .i64 a0_1, (.slice A0_2 l0_2.length c0_2), (.slice (some ad274) l0_3.length c0_3)] 50 (0, 0))) ∧ Aside0 (w'.heap[gb266]? = some (.cells #[.int .i64 0, .int .i64 0, (.slice none 0 0), (.slice none 0 0)] 50 (0, 0))) ∧ Aside0 (w'.heap[gb273]? = some (.cells #[.int .i64 a0_0, .int .i64 a0_1, (.slice Ao12 y270.length co12), u274003] 50 (0, 0))) ∧ Aside0 (w'.heap[gb275]? = some (.cells #[(.slice A274_0 ((rd_T56 l0_3 x4_1).f0).length c274_0), (.slice A274_1 ((rd_T56 l0_3 x4_1).f1).length c274_1), .int .i64 ((rd_T56 l0_3 x4_1).f2.f0), .int .i64 ((rd_T56 l0_3 x4_1).f2.f1), (.slice A274_4 ((rd_T56 l0_3 x4_1).f2.f2).length c274_4)] 56 (0, 0))) ∧ Aside0 (w'.heap[gb282]? = some (.cells #[u283000, (.slice none 0 0), .int .i64 ((rd_T56 l0_3 x4_1).f2.f0), .int .i64 ((rd_T56 l0_3 x4_1).f2.f1), (.slice Ao36 y279.length co36)] 56 (0, 0))) ∧ Aside0 (Below w.heap.size w w'))
    case atStart => exact ⟨(0), (([] : List (S60))), (.slice none 0 0), (by first | rfl | (simp; done) | (simp [*]; done)), H', ⟨Nat.le_refl _⟩, ⟨by (with_reducible repeat (first | apply R_alloc | apply R_drewN | apply R_drew)); exact R_mono (Kd.R_far (p := ⟨gb282, 4, none⟩) (Kd.R_far (p := ⟨gb282, 3, none⟩) (Kd.R_far (p := ⟨gb282, 2, none⟩) (Kd.R_far (p := ⟨gb282, 1, none⟩) (Kd.R_far (p := ⟨gb282, 0, none⟩) (Kd.R_types HO_274002.out BK282.out (by decide)) (fun _ hk => hk.2) (.slice none 0 0)) (fun _ hk => hk.2) (.slice none 0 0)) (fun _ hk => hk.2) (.int .i64 ((rd_T56 l0_3 x4_1).f2.f0))) (fun _ hk => hk.2) (.int .i64 ((rd_T56 l0_3 x4_1).f2.f1))) (fun _ hk => hk.2) (.slice Ao36 y279.length co36)) (fun _ hk => hk.1)⟩, ⟨by (with_reducible repeat (first | apply R_alloc | apply R_drewN | apply R_drew)); exact R_mono (Kd.R_far (p := ⟨gb282, 4, none⟩) (Kd.R_far (p := ⟨gb282, 3, none⟩) (Kd.R_far (p := ⟨gb282, 2, none⟩) (Kd.R_far (p := ⟨gb282, 1, none⟩) (Kd.R_far (p := ⟨gb282, 0, none⟩) (R_mono HO_274003.out (fun k_ hk => (⟨hk, hk.2.2.2⟩ : _ ∧ k_ ≠ gb282))) (fun _ hk => hk.2) (.slice none 0 0)) (fun _ hk => hk.2) (.slice none 0 0)) (fun _ hk => hk.2) (.int .i64 ((rd_T56 l0_3 x4_1).f2.f0))) (fun _ hk => hk.2) (.int .i64 ((rd_T56 l0_3 x4_1).f2.f1))) (fun _ hk => hk.2) (.slice Ao36 y279.length co36)) (fun _ hk => ⟨hk.1.2.1, ⟨(by simp [Value.ownBlock]), ⟨hk.1.1, ⟨hk.1.2.2.1, hk.1.2.2.2⟩⟩⟩⟩)⟩, ⟨by first | exact Kd.S_nil _ _ _ _ _ | exact Kd.N_nil _ _ _ _ _ | exact Kd.V_nil _ _ _ _ _ | exact Kd.Q_nil _ _ _ _ _ | exact Kd.R_nil _ _ _ _ _⟩, ⟨by (with_reducible repeat (first | apply R_alloc | apply R_drewN | apply R_drew)); exact R_mono (Kd.R_far (p := ⟨gb282, 4, none⟩) (Kd.R_far (p := ⟨gb282, 3, none⟩) (Kd.R_far (p := ⟨gb282, 2, none⟩) (Kd.R_far (p := ⟨gb282, 1, none⟩) (Kd.R_far (p := ⟨gb282, 0, none⟩) (Kd.R_types HO281.out BK282.out (by decide)) (fun _ hk => hk.2) (.slice none 0 0)) (fun _ hk => hk.2) (.slice none 0 0)) (fun _ hk => hk.2) (.int .i64 ((rd_T56 l0_3 x4_1).f2.f0))) (fun _ hk => hk.2) (.int .i64 ((rd_T56 l0_3 x4_1).f2.f1))) (fun _ hk => hk.2) (.slice Ao36 y279.length co36)) (fun _ hk => hk.1)⟩, ⟨by (with_reducible repeat (first | refine blk_drewN ?_ _ | refine blk_drew ?_ | refine blk_alloc ?_ _)); refine blk_far ?_ NB265_282.out _; (with_reducible repeat (first | refine blk_drewN ?_ _ | refine blk_drew ?_ | refine blk_alloc ?_ _)); refine blk_far ?_ NB265_282.out _; (with_reducible repeat (first | refine blk_drewN ?_ _ | refine blk_drew ?_ | refine blk_alloc ?_ _)); refine blk_far ?_ NB265_282.out _; (with_reducible repeat (first | refine blk_drewN ?_ _ | refine blk_drew ?_ | refine blk_alloc ?_ _)); refine blk_far ?_ NB265_282.out _; (with_reducible repeat (first | refine blk_drewN ?_ _ | refine blk_drew ?_ | refine blk_alloc ?_ _)); refine blk_far ?_ NB265_282.out _; (with_reducible repeat (first | refine blk_drewN ?_ _ | refine blk_drew ?_ | refine blk_alloc ?_ _)); exact BK265.out⟩, ⟨by (with_reducible repeat (first | refine blk_drewN ?_ _ | refine blk_drew ?_ | refine blk_alloc ?_ _)); refine blk_far ?_ NB266_282.out _; (with_reducible repeat (first | refine blk_drewN ?_ _ | refine blk_drew ?_ | refine blk_alloc ?_ _)); refine blk_far ?_ NB266_282.out _; (with_reducible repeat (first | refine blk_drewN ?_ _ | refine blk_drew ?_ | refine blk_alloc ?_ _)); refine blk_far ?_ NB266_282.out _; (with_reducible repeat (first | refine blk_drewN ?_ _ | refine blk_drew ?_ | refine blk_alloc ?_ _)); refine blk_far ?_ NB266_282.out _; (with_reducible repeat (first | refine blk_drewN ?_ _ | refine blk_drew ?_ | refine blk_alloc ?_ _)); refine blk_far ?_ NB266_282.out _; (with_reducible repeat (first | refine blk_drewN ?_ _ | refine blk_drew ?_ | refine blk_alloc ?_ _)); exact BK266.out⟩, ⟨by (with_reducible repeat (first | refine blk_drewN ?_ _ | refine blk_drew ?_ | refine blk_alloc ?_ _)); refine blk_far ?_ NB273_282.out _; (with_reducible repeat (first | refine blk_drewN ?_ _ | refine blk_drew ?_ | refine blk_alloc ?_ _)); refine blk_far ?_ NB273_282.out _; (with_reducible repeat (first | refine blk_drewN ?_ _ | refine blk_drew ?_ | refine blk_alloc ?_ _)); refine blk_far ?_ NB273_282.out _; (with_reducible repeat (first | refine blk_drewN ?_ _ | refine blk_drew ?_ | refine blk_alloc ?_ _)); refine blk_far ?_ NB273_282.out _; (with_reducible repeat (first | refine blk_drewN ?_ _ | refine blk_drew ?_ | refine blk_alloc ?_ _)); refine blk_far ?_ NB273_282.out _; (with_reducible repeat (first | refine blk_drewN ?_ _ | refine blk_drew ?_ | refine blk_alloc ?_ _)); exact BK273.out⟩, ⟨by (with_reducible repeat (first | refine blk_drewN ?_ _ | refine blk_drew ?_ | refine blk_alloc ?_ _)); refine blk_far ?_ NB275_282.out _; (with_reducible repeat (first | refine blk_drewN ?_ _ | refine blk_drew ?_ | refine blk_alloc ?_ _)); refine blk_far ?_ NB275_282.out _; (with_reducible repeat (first | refine blk_drewN ?_ _ | refine blk_drew ?_ | refine blk_alloc ?_ _)); refine blk_far ?_ NB275_282.out _; (with_reducible repeat (first | refine blk_drewN ?_ _ | refine blk_drew ?_ | refine blk_alloc ?_ _)); refine blk_far ?_ NB275_282.out _; (with_reducible repeat (first | refine blk_drewN ?_ _ | refine blk_drew ?_ | refine blk_alloc ?_ _)); refine blk_far ?_ NB275_282.out _; (with_reducible repeat (first | refine blk_drewN ?_ _ | refine blk_drew ?_ | refine blk_alloc ?_ _)); exact BK275.out⟩, ⟨by (with_reducible repeat (first | refine blk_drewN ?_ _ | refine blk_drew ?_ | refine blk_alloc ?_ _)); refine blk_put (cs := #[.slice none 0 0, .slice none 0 0, .int .i64 ((rd_T56 l0_3 x4_1).f2.f0), .int .i64 ((rd_T56 l0_3 x4_1).f2.f1), .slice none 0 0]) ?_ 4 _ rfl; (with_reducible repeat (first | refine blk_drewN ?_ _ | refine blk_drew ?_ | refine blk_alloc ?_ _)); refine blk_put (cs := #[.slice none 0 0, .slice none 0 0, .int .i64 ((rd_T56 l0_3 x4_1).f2.f0), .int .i64 0, .slice none 0 0]) ?_ 3 _ rfl; (with_reducible repeat (first | refine blk_drewN ?_ _ | refine blk_drew ?_ | refine blk_alloc ?_ _)); refine blk_put (cs := #[.slice none 0 0, .slice none 0 0, .int .i64 0, .int .i64 0, .slice none 0 0]) ?_ 2 _ rfl; (with_reducible repeat (first | refine blk_drewN ?_ _ | refine blk_drew ?_ | refine blk_alloc ?_ _)); refine blk_put (cs := #[.slice none 0 0, .slice none 0 0, .int .i64 0, .int .i64 0, .slice none 0 0]) ?_ 1 _ rfl; (with_reducible repeat (first | refine blk_drewN ?_ _ | refine blk_drew ?_ | refine blk_alloc ?_ _)); refine blk_put (cs := #[.slice none 0 0, .slice none 0 0, .int .i64 0, .int .i64 0, .slice none 0 0]) ?_ 0 _ rfl; (with_reducible repeat (first | refine blk_drewN ?_ _ | refine blk_drew ?_ | refine blk_alloc ?_ _)); exact BK282.out⟩, ⟨by repeat (first | (with_reducible first | exact HB.out | apply below_alloc | apply pw_below_drewN | apply below_drew1 | refine below_set ?_ GE265.out | refine below_set ?_ GE266.out | refine below_set ?_ GE273.out | refine below_set ?_ GE275.out | refine below_set ?_ GE282.out) | exact HB.out)⟩⟩
    clear H'
    try clear c1
    try clear c2
    try clear p2
    try clear c19
    try clear c27
    obtain ⟨x7_2, x283000_2, u283000, rfl, HA, HK2, HO_274002, HO_274003, HO_283000, HO_283004, BK265, BK266, BK273, BK275, BK282, HB⟩ := hrel
    rcases gk with _ | k2
    · exact absurd HA.out (by simp [fettleref02_CopyFunc.l1])
    have H := HA.out
    clear HA
    simp only [fettleref02_CopyFunc.l1] at H
    by_cases c42 : x7_2 < (((rd_T56 l0_3 x4_1).f0).length : Int)
    · rw [if_pos c42] at H
      have c42b0 : decide (x7_2 < (((rd_T56 l0_3 x4_1).f0).length : Int)) = true := decide_eq_true c42
      clear c42
      by_cases c43 : 0 ≤ x7_2
      rotate_left
      · rw [if_neg c43] at H
        exact absurd H (by simp)
      rw [if_pos c43] at H
      have c43b0 : decide (0 ≤ x7_2) = true := decide_eq_true c43
      clear c43
      obtain ⟨y284, hy284⟩ : ∃ y_ : List Int, y_ = (([] : List Int)) := ⟨_, rfl⟩
      replace H : (if y284.length + ((rd_T60 ((rd_T56 l0_3 x4_1).f0) x7_2).f1).length < 17592186044416 then (if x283000_2.length < 4398046511104 then (fettleref02_CopyFunc.l1 k2 x4_1 (wrap64 (x7_2 + 1)) a0_0 a0_1 l0_2 l0_3 a0_0 a0_1 y270 x274003_1 ((rd_T56 l0_3 x4_1).f0) ((rd_T56 l0_3 x4_1).f1) ((rd_T56 l0_3 x4_1).f2.f0) ((rd_T56 l0_3 x4_1).f2.f1) ((rd_T56 l0_3 x4_1).f2.f2) (x283000_2 ++ [(⟨(rd_T60 ((rd_T56 l0_3 x4_1).f0) x7_2).f0, (y284 ++ ((rd_T60 ((rd_T56 l0_3 x4_1).f0) x7_2).f1))⟩ : S60)]) ((rd_T56 l0_3 x4_1).f2.f0) ((rd_T56 l0_3 x4_1).f2.f1) y279) else (none)) else (none)) = some (r1, r2, r3, r4) := by first | (rw [hy284]; with_reducible exact H) | (have H2_ := (Option.bind_some _ _).symm.trans H; rw [hy284]; with_reducible exact H2_) | exact H
      have Ny284 := Aside0.mk hy284
      clear hy284
      by_cases c44 : y284.length + ((rd_T60 ((rd_T56 l0_3 x4_1).f0) x7_2).f1).length < 17592186044416
      rotate_left
      · rw [if_neg c44] at H
        exact absurd H (by simp)
      rw [if_pos c44] at H
      have LMc44 := Aside0.mk c44
      clear c44
      obtain ⟨y288, hy288⟩ : ∃ y_ : List Int, y_ = (y284 ++ ((rd_T60 ((rd_T56 l0_3 x4_1).f0) x7_2).f1)) := ⟨_, rfl⟩
      replace H : (if x283000_2.length < 4398046511104 then (fettleref02_CopyFunc.l1 k2 x4_1 (wrap64 (x7_2 + 1)) a0_0 a0_1 l0_2 l0_3 a0_0 a0_1 y270 x274003_1 ((rd_T56 l0_3 x4_1).f0) ((rd_T56 l0_3 x4_1).f1) ((rd_T56 l0_3 x4_1).f2.f0) ((rd_T56 l0_3 x4_1).f2.f1) ((rd_T56 l0_3 x4_1).f2.f2) (x283000_2 ++ [(⟨(rd_T60 ((rd_T56 l0_3 x4_1).f0) x7_2).f0, y288⟩ : S60)]) ((rd_T56 l0_3 x4_1).f2.f0) ((rd_T56 l0_3 x4_1).f2.f1) y279) else (none)) = some (r1, r2, r3, r4) := by first | (rw [hy288]; with_reducible exact H) | (have H2_ := (Option.bind_some _ _).symm.trans H; rw [hy288]; with_reducible exact H2_) | exact H
      have Ny288 := Aside0.mk hy288
      clear hy288
      by_cases c45 : x283000_2.length < 4398046511104
      rotate_left
      · rw [if_neg c45] at H
        exact absurd H (by simp)
      rw [if_pos c45] at H
      have LMc45 := Aside0.mk c45
      clear c45
      obtain ⟨y291, hy291⟩ : ∃ y_ : List (S60), y_ = (x283000_2 ++ [(⟨(rd_T60 ((rd_T56 l0_3 x4_1).f0) x7_2).f0, y288⟩ : S60)]) := ⟨_, rfl⟩
      replace H : (fettleref02_CopyFunc.l1 k2 x4_1 (wrap64 (x7_2 + 1)) a0_0 a0_1 l0_2 l0_3 a0_0 a0_1 y270 x274003_1 ((rd_T56 l0_3 x4_1).f0) ((rd_T56 l0_3 x4_1).f1) ((rd_T56 l0_3 x4_1).f2.f0) ((rd_T56 l0_3 x4_1).f2.f1) ((rd_T56 l0_3 x4_1).f2.f2) y291 ((rd_T56 l0_3 x4_1).f2.f0) ((rd_T56 l0_3 x4_1).f2.f1) y279) = some (r1, r2, r3, r4) := by first | (rw [hy291]; with_reducible exact H) | (have H2_ := (Option.bind_some _ _).symm.trans H; rw [hy291]; with_reducible exact H2_) | exact H
      have Ny291 := Aside0.mk hy291
      clear hy291
      have H' := Aside0.mk H
      clear H
      have hnb46 := NB275_265.out
      have hnc46 := NB265_275.out
      have hnb47 := NB275_266.out
      have hnc47 := NB266_275.out
      have hnb48 := NB275_273.out
      have hnc48 := NB273_275.out
      have hnb49 := NB275_282.out
      have hnc49 := NB282_275.out
      have hcz50_0 : wr.cell? ⟨gb275, 0, none⟩ = some (.slice A274_0 ((rd_T56 l0_3 x4_1).f0).length c274_0) := (blk_cell BK275.out 0).trans rfl
      have hcz50_1 : wr.cell? ⟨gb275, 1, none⟩ = some (.slice A274_1 ((rd_T56 l0_3 x4_1).f1).length c274_1) := (blk_cell BK275.out 1).trans rfl
      have hcz50_2 : wr.cell? ⟨gb275, 2, none⟩ = some (.int .i64 ((rd_T56 l0_3 x4_1).f2.f0)) := (blk_cell BK275.out 2).trans rfl
      have hcz50_3 : wr.cell? ⟨gb275, 3, none⟩ = some (.int .i64 ((rd_T56 l0_3 x4_1).f2.f1)) := (blk_cell BK275.out 3).trans rfl
      have hcz50_4 : wr.cell? ⟨gb275, 4, none⟩ = some (.slice A274_4 ((rd_T56 l0_3 x4_1).f2.f2).length c274_4) := (blk_cell BK275.out 4).trans rfl
      have hfz50_0 := blk_frozen BK275.out 0
      have hfz50_1 := blk_frozen BK275.out 1
      have hfz50_2 := blk_frozen BK275.out 2
      have hfz50_3 := blk_frozen BK275.out 3
      have hfz50_4 := blk_frozen BK275.out 4
      try go_wp2
      have n0_ := Aside0.mk (R_drew HO_274002.out)
      have n1_ := Aside0.mk (R_drew HO_274003.out)
      have n2_ := Aside0.mk (S_drew HO_283000.out)
      have n3_ := Aside0.mk (R_drew HO_283004.out)
      have n4_ := Aside0.mk (blk_drew BK265.out)
      have n5_ := Aside0.mk (blk_drew BK266.out)
      have n6_ := Aside0.mk (blk_drew BK273.out)
      have n7_ := Aside0.mk (blk_drew BK275.out)
      have n8_ := Aside0.mk (blk_drew BK282.out)
      have n9_ := Aside0.mk (below_drew1 HB.out)
      clear HO_274002
      clear HO_274003
      clear HO_283000
      clear HO_283004
      clear BK265
      clear BK266
      clear BK273
      clear BK275
      clear BK282
      clear HB
      have HO_274002 := n0_
      have HO_274003 := n1_
      have HO_283000 := n2_
      have HO_283004 := n3_
      have BK265 := n4_
      have BK266 := n5_
      have BK273 := n6_
      have BK275 := n7_
      have BK282 := n8_
      have HB := n9_
      clear n0_ n1_ n2_ n3_ n4_ n5_ n6_ n7_ n8_ n9_
      have p283 : 0 ≤ (x7_2 : Int) := of_decide_eq_true (by with_reducible assumption)
      have q283 : x7_2 < (((rd_T56 l0_3 x4_1).f0).length : Int) := of_decide_eq_true (by with_reducible assumption)
      obtain ⟨ad283, A283_1, c283_1, e283, hx283_0, hx283_1, hl283_1, hi283_1⟩ := at_T60 HR274_0.out x7_2 p283 q283
      have hw283_1 := hx283_1
      have hw283_0 := hx283_0
      cases e283
      replace hx283_0 := (HB.out.cell (World.block_lt_of_cell? w _ hx283_0)).trans hx283_0
      replace hx283_1 := (HB.out.cell (World.block_lt_of_cell? w _ hx283_1)).trans hx283_1
      have HR283_1 := Aside0.mk hi283_1
      have HC283_1 := Aside0.mk hl283_1
      clear hi283_1 hl283_1
      replace p283 := eq_true p283
      replace q283 := eq_true q283
      have p287 : 0 ≤ (x7_2 : Int) := of_decide_eq_true (by with_reducible assumption)
      have q287 : x7_2 < (((rd_T56 l0_3 x4_1).f0).length : Int) := of_decide_eq_true (by with_reducible assumption)
      obtain ⟨ad287, A287_1, c287_1, e287, hx287_0, hx287_1, hl287_1, hi287_1⟩ := at_T60 HR274_0.out x7_2 p287 q287
      have hw287_1 := hx287_1
      have hw287_0 := hx287_0
      obtain rfl : ad283 = ad287 := (by injection e287)
      replace hx287_0 := (HB.out.cell (World.block_lt_of_cell? w _ hx287_0)).trans hx287_0
      replace hx287_1 := (HB.out.cell (World.block_lt_of_cell? w _ hx287_1)).trans hx287_1
      have HR287_1 := Aside0.mk hi287_1
      have HC287_1 := Aside0.mk hl287_1
      clear hi287_1 hl287_1
      replace p287 := eq_true p287
      replace q287 := eq_true q287
      have ea_ := Option.some.inj (hx283_1.symm.trans hx287_1)
      injection ea_ with ea_ en_ ec_
      subst ea_
      subst ec_
      clear en_
      refine start_ (n := 21) (S := fun w' => w'.cell? ⟨gb282, 0, none⟩ = some (u283000) ∧ w'.cell? ⟨gb282, 1, none⟩ = some (.slice none 0 0) ∧ w'.cell? ⟨gb282, 2, none⟩ = some (.int .i64 ((rd_T56 l0_3 x4_1).f2.f0)) ∧ w'.cell? ⟨gb282, 3, none⟩ = some (.int .i64 ((rd_T56 l0_3 x4_1).f2.f1)) ∧ w'.cell? ⟨gb282, 4, none⟩ = some (.slice Ao36 y279.length co36) ∧ w'.cell? ⟨gb275, 0, none⟩ = some (.slice (some ad283) ((rd_T56 l0_3 x4_1).f0).length c274_0) ∧ w'.cell? ⟨gb275, 1, none⟩ = some (.slice A274_1 ((rd_T56 l0_3 x4_1).f1).length c274_1) ∧ w'.cell? ⟨gb275, 2, none⟩ = some (.int .i64 ((rd_T56 l0_3 x4_1).f2.f0)) ∧ w'.cell? ⟨gb275, 3, none⟩ = some (.int .i64 ((rd_T56 l0_3 x4_1).f2.f1)) ∧ w'.cell? ⟨gb275, 4, none⟩ = some (.slice A274_4 ((rd_T56 l0_3 x4_1).f2.f2).length c274_4) ∧ w'.cell? (ad283.add ((x7_2).toNat * 2)) = some (.int .i64 ((rd_T60 ((rd_T56 l0_3 x4_1).f0) x7_2).f0)) ∧ w'.cell? ⟨(ad283.add ((x7_2).toNat * 2)).block, (ad283.add ((x7_2).toNat * 2)).off + 1, none⟩ = some (.slice A283_1 ((rd_T60 ((rd_T56 l0_3 x4_1).f0) x7_2).f1).length c283_1) ∧ w'.cell? (ad283.add ((x7_2).toNat * 2)) = some (.int .i64 ((rd_T60 ((rd_T56 l0_3 x4_1).f0) x7_2).f0)) ∧ w'.cell? ⟨(ad283.add ((x7_2).toNat * 2)).block, (ad283.add ((x7_2).toNat * 2)).off + 1, none⟩ = some (.slice A283_1 ((rd_T60 ((rd_T56 l0_3 x4_1).f0) x7_2).f1).length c283_1)) (ds := [20]) #[false, false, false, false, false, false, false, false, false, false, false, false, false, false, false, false, false, false, false, false, false] (by kernel_rfl) rfl rfl ⟨(blk_cell BK282.out 0).trans rfl, (blk_cell BK282.out 1).trans rfl, (blk_cell BK282.out 2).trans rfl, (blk_cell BK282.out 3).trans rfl, (blk_cell BK282.out 4).trans rfl, (blk_cell BK275.out 0).trans rfl, (blk_cell BK275.out 1).trans rfl, (blk_cell BK275.out 2).trans rfl, (blk_cell BK275.out 3).trans rfl, (blk_cell BK275.out 4).trans rfl, ((HB.out.cell (World.block_lt_of_cell? w _ hw283_0)).trans hw283_0), ((HB.out.cell (World.block_lt_of_cell? w _ hw283_1)).trans hw283_1), ((HB.out.cell (World.block_lt_of_cell? w _ hw287_0)).trans hw287_0), ((HB.out.cell (World.block_lt_of_cell? w _ hw287_1)).trans hw287_1)⟩ (fun hHeld => ?_); refine with_tabW fettleref02_CopyFunc.tab10 fettleref02_CopyFunc.bits10 (fun HT_ HW_ => ?_)
      generalize wr.drew = w51 at HO_274002 HO_274003 HO_283000 HO_283004 BK265 BK266 BK273 BK275 BK282 HB HR283_1 HR287_1 hx283_0 hx283_1 hx287_0 hx287_1 hHeld ⊢
      refine pu 0 51 (bt 21 1) HT_.out ?_
      refine pu 2 53 (bt 21 5) HT_.out ?_
      refine pu 4 55 (bt 21 21) HT_.out ?_
      refine pu 9 60 (bt 21 533) HT_.out ?_
      refine pu 11 62 (bt 21 2581) HT_.out ?_
      refine tk 1 52 (bt 21 2583) HT_.out HW_.out hHeld rfl rfl (by rintro w' ⟨s0, s1, s2, s3, s4, s5, s6, s7, s8, s9, s10, s11, s12, s13⟩; go_simp; with_reducible rfl) ?_
      refine tk 3 54 (bt 21 2591) HT_.out HW_.out hHeld rfl rfl (by rintro w' ⟨s0, s1, s2, s3, s4, s5, s6, s7, s8, s9, s10, s11, s12, s13⟩; go_simp; with_reducible rfl) ?_
      refine pu 5 56 (bt 21 2623) HT_.out ?_
      refine pu 6 57 (bt 21 2687) HT_.out ?_
      refine tk 7 58 (bt 21 2815) HT_.out HW_.out hHeld rfl rfl (by rintro w' ⟨s0, s1, s2, s3, s4, s5, s6, s7, s8, s9, s10, s11, s12, s13⟩; go_simp; with_reducible rfl) ?_
      refine tk 10 61 (bt 21 3839) HT_.out HW_.out hHeld rfl rfl (by rintro w' ⟨s0, s1, s2, s3, s4, s5, s6, s7, s8, s9, s10, s11, s12, s13⟩; go_simp; with_reducible rfl) ?_
      refine pu 12 63 (bt 21 7935) HT_.out ?_
      refine pu 13 64 (bt 21 16127) HT_.out ?_
      refine tk 14 65 (bt 21 32511) HT_.out HW_.out hHeld rfl rfl (by rintro w' ⟨s0, s1, s2, s3, s4, s5, s6, s7, s8, s9, s10, s11, s12, s13⟩; go_simp; with_reducible rfl) ?_
      refine one_ (i := 8) (N := some 59) (bt 21 32767) rfl rfl (one_of HT_.out (by kernel_rfl)) (by decide) (fun K hK => ?_)
      refine Kd.R_lit_step (Kd.int .i64) _ 3 ?hg (N := 59) ?hd (xs := ([] : List Int)) (inner := []) (ok := fun _ => True) (okp := fun _ => True) ?hr ?hp (fun _ hk => hk) trivial (Below.refl _ _) (Nat.le_refl _) (by simp) ?_; (case hd => rfl); (case hg => rfl); (case hr => first | (go_simp; done) | (go_simp; rfl)); (case hp => exact (Reps.none _ _))
      intro v285 w52 ho53 hb hg_ hnew_
      clear hg_ hnew_
      rw [← Ny284.out] at ho53
      have n0_ := Aside0.mk (R_elder' (by (with_reducible repeat (first | apply R_alloc | apply R_drewN | apply R_drew)); exact HO_274002.out) (R_base ho53) hb)
      have n1_ := Aside0.mk (R_elder' (by (with_reducible repeat (first | apply R_alloc | apply R_drewN | apply R_drew)); exact HO_274003.out) (R_base ho53) hb)
      have n2_ := Aside0.mk (Kd.S_elder' (by (with_reducible repeat (first | apply S_alloc | apply S_drewN | apply S_drew)); exact HO_283000.out) (R_base ho53) hb)
      have n3_ := Aside0.mk (R_elder' (by (with_reducible repeat (first | apply R_alloc | apply R_drewN | apply R_drew)); exact HO_283004.out) (R_base ho53) hb)
      have n4_ := Aside0.mk (Kd.R_lower (R_new' (R_new' ho53 (R_lt (by (with_reducible repeat (first | apply R_alloc | apply R_drewN | apply R_drew)); exact HO_274002.out))) (R_lt (by (with_reducible repeat (first | apply R_alloc | apply R_drewN | apply R_drew)); exact HO_283004.out))) (below_size (by repeat with_reducible first | exact HB.out | apply below_alloc | apply pw_below_drewN | apply below_drew1 | refine below_set ?_ GE265.out | refine below_set ?_ GE266.out | refine below_set ?_ GE273.out | refine below_set ?_ GE275.out | refine below_set ?_ GE282.out)))
      have n5_ := Aside0.mk (blk_below (g := gb265) (o := .cells #[.int .i64 a0_0, .int .i64 a0_1, .slice A0_2 l0_2.length c0_2, .slice (some ad274) l0_3.length c0_3] 50 (0, 0)) (by (with_reducible repeat (first | refine blk_drewN ?_ _ | refine blk_drew ?_ | refine blk_alloc ?_ _)); exact BK265.out) hb)
      have n6_ := Aside0.mk (blk_below (g := gb266) (o := .cells #[.int .i64 0, .int .i64 0, .slice none 0 0, .slice none 0 0] 50 (0, 0)) (by (with_reducible repeat (first | refine blk_drewN ?_ _ | refine blk_drew ?_ | refine blk_alloc ?_ _)); exact BK266.out) hb)
      have n7_ := Aside0.mk (blk_below (g := gb273) (o := .cells #[.int .i64 a0_0, .int .i64 a0_1, .slice Ao12 y270.length co12, u274003] 50 (0, 0)) (by (with_reducible repeat (first | refine blk_drewN ?_ _ | refine blk_drew ?_ | refine blk_alloc ?_ _)); exact BK273.out) hb)
      have n8_ := Aside0.mk (blk_below (g := gb275) (o := .cells #[.slice (some ad283) ((rd_T56 l0_3 x4_1).f0).length c274_0, .slice A274_1 ((rd_T56 l0_3 x4_1).f1).length c274_1, .int .i64 ((rd_T56 l0_3 x4_1).f2.f0), .int .i64 ((rd_T56 l0_3 x4_1).f2.f1), .slice A274_4 ((rd_T56 l0_3 x4_1).f2.f2).length c274_4] 56 (0, 0)) (by (with_reducible repeat (first | refine blk_drewN ?_ _ | refine blk_drew ?_ | refine blk_alloc ?_ _)); exact BK275.out) hb)
      have n9_ := Aside0.mk (blk_below (g := gb282) (o := .cells #[u283000, .slice none 0 0, .int .i64 ((rd_T56 l0_3 x4_1).f2.f0), .int .i64 ((rd_T56 l0_3 x4_1).f2.f1), .slice Ao36 y279.length co36] 56 (0, 0)) (by (with_reducible repeat (first | refine blk_drewN ?_ _ | refine blk_drew ?_ | refine blk_alloc ?_ _)); exact BK282.out) hb)
      have n10_ := Aside0.mk (below_step (by repeat with_reducible first | exact HB.out | apply below_alloc | apply pw_below_drewN | apply below_drew1 | refine below_set ?_ GE265.out | refine below_set ?_ GE266.out | refine below_set ?_ GE273.out | refine below_set ?_ GE275.out | refine below_set ?_ GE282.out) hb)
      clear HO_274002
      clear HO_274003
      clear HO_283000
      clear HO_283004
      clear BK265
      clear BK266
      clear BK273
      clear BK275
      clear BK282
      clear HB
      have HO_274002 := n0_
      have HO_274003 := n1_
      have HO_283000 := n2_
      have HO_283004 := n3_
      have HO286 := n4_
      have BK265 := n5_
      have BK266 := n6_
      have BK273 := n7_
      have BK275 := n8_
      have BK282 := n9_
      have HB := n10_
      clear n0_ n1_ n2_ n3_ n4_ n5_ n6_ n7_ n8_ n9_ n10_
      clear hb ho53
      refine hK.out _ _ ⟨(blk_cell BK282.out 0).trans rfl, (blk_cell BK282.out 1).trans rfl, (blk_cell BK282.out 2).trans rfl, (blk_cell BK282.out 3).trans rfl, (blk_cell BK282.out 4).trans rfl, (blk_cell BK275.out 0).trans rfl, (blk_cell BK275.out 1).trans rfl, (blk_cell BK275.out 2).trans rfl, (blk_cell BK275.out 3).trans rfl, (blk_cell BK275.out 4).trans rfl, ((HB.out.cell (World.block_lt_of_cell? w _ hw283_0)).trans hw283_0), ((HB.out.cell (World.block_lt_of_cell? w _ hw283_1)).trans hw283_1), ((HB.out.cell (World.block_lt_of_cell? w _ hw287_0)).trans hw287_0), ((HB.out.cell (World.block_lt_of_cell? w _ hw287_1)).trans hw287_1)⟩ (fun hHeld => ?_)
      clear hK K
      refine norm_ (a' := ?_) ?_ ?_
      rotate_left
      · show Act.put _ (some 59) _ = _
        simp only [Act.put, List.setIfInBounds_toArray, List.set_cons_zero, List.set_cons_succ, i64_w, i32_w]
        rfl
      refine one_ (i := 15) (N := some 66) (bt 21 65535) rfl rfl (one_of HT_.out (by kernel_rfl)) (by decide) (fun K hK => ?_)
      refine Kd.R_append_rows_step (Kd.int .i64) (w0 := w) w.heap.size (by rfl) (.tmp 59) (.tmp 65) 47 3 (.int .i64 0) 8 rfl Tryd.underlying47 info3 rfl (by decide) (by omega) v285 y284 ((rd_T60 ((rd_T56 l0_3 x4_1).f0) x7_2).f1) _ _ _ (fun k_ => some k_ ≠ (.slice Ao12 y270.length co12 : Value).ownBlock ∧ some k_ ≠ (.slice Ao36 y279.length co36 : Value).ownBlock) (fun _ => False) rfl rfl ?aO ?aR (fun _ _ h => h) (fun _ h => h.elim) ?aF ?aB ?aS ?aL ?_
      (case aR => repeat (first | exact (C_below HR287_1.out HB.out) | (with_reducible refine C_alloc ?_ _) | (with_reducible refine C_drewN ?_ _) | (with_reducible refine C_drew ?_)))
      (case aB => exact (by repeat with_reducible first | exact HB.out | apply below_alloc | apply pw_below_drewN | apply below_drew1 | refine below_set ?_ GE265.out | refine below_set ?_ GE266.out | refine below_set ?_ GE273.out | refine below_set ?_ GE275.out | refine below_set ?_ GE282.out))
      (case aF => exact (fun k_ hk => ⟨Kd.fresh' (R_lt (by (with_reducible repeat (first | apply R_alloc | apply R_drewN | apply R_drew)); exact HO_274002.out)) k_ hk, Kd.fresh' (R_lt (by (with_reducible repeat (first | apply R_alloc | apply R_drewN | apply R_drew)); exact HO_283004.out)) k_ hk⟩))
      (case aO => exact (by (with_reducible repeat (first | apply R_alloc | apply R_drewN | apply R_drew)); exact R_mono HO286.out (fun _ hk => ⟨hk.1.2, hk.2⟩)))
      (case aS => exact (below_size (by repeat with_reducible first | exact HB.out | apply below_alloc | apply pw_below_drewN | apply below_drew1 | refine below_set ?_ GE265.out | refine below_set ?_ GE266.out | refine below_set ?_ GE273.out | refine below_set ?_ GE275.out | refine below_set ?_ GE282.out)))
      (case aL => have := LMc44.out; omega)
      intro v289 w54 ho hb hg hat
      rw [← Ny288.out] at ho
      have n0_ := Aside0.mk (Kd.R_after (ok := (fun k_ => some k_ ≠ (.slice Ao36 y279.length co36 : Value).ownBlock)) (by (with_reducible repeat (first | apply R_alloc | apply R_drewN | apply R_drew)); exact HO_274002.out) hg hat)
      have n1_ := Aside0.mk (Kd.R_after (ok := (fun k_ => some k_ ≠ (.slice Ao12 y270.length co12 : Value).ownBlock ∧ some k_ ≠ (u283000 : Value).ownBlock ∧ some k_ ≠ (.slice Ao36 y279.length co36 : Value).ownBlock ∧ k_ ≠ gb275 ∧ k_ ≠ gb282)) (by (with_reducible repeat (first | apply R_alloc | apply R_drewN | apply R_drew)); exact HO_274003.out) hg hat)
      have n2_ := Aside0.mk (Kd.S_after (ok := (fun k_ => some k_ ≠ (.slice Ao12 y270.length co12 : Value).ownBlock ∧ some k_ ≠ (.slice Ao36 y279.length co36 : Value).ownBlock)) (by (with_reducible repeat (first | apply S_alloc | apply S_drewN | apply S_drew)); exact HO_283000.out) hg hat)
      have n3_ := Aside0.mk (Kd.R_after (ok := (fun k_ => some k_ ≠ (.slice Ao12 y270.length co12 : Value).ownBlock)) (by (with_reducible repeat (first | apply R_alloc | apply R_drewN | apply R_drew)); exact HO_283004.out) hg hat)
      have n4_ := Aside0.mk (blk_grown (g := gb265) (o := .cells #[.int .i64 a0_0, .int .i64 a0_1, .slice A0_2 l0_2.length c0_2, .slice (some ad274) l0_3.length c0_3] 50 (0, 0)) (by (with_reducible repeat (first | refine blk_drewN ?_ _ | refine blk_drew ?_ | refine blk_alloc ?_ _)); exact BK265.out) hg (Kd.R_ne HO286.out BK265.out (by decide)))
      have n5_ := Aside0.mk (blk_grown (g := gb266) (o := .cells #[.int .i64 0, .int .i64 0, .slice none 0 0, .slice none 0 0] 50 (0, 0)) (by (with_reducible repeat (first | refine blk_drewN ?_ _ | refine blk_drew ?_ | refine blk_alloc ?_ _)); exact BK266.out) hg (Kd.R_ne HO286.out BK266.out (by decide)))
      have n6_ := Aside0.mk (blk_grown (g := gb273) (o := .cells #[.int .i64 a0_0, .int .i64 a0_1, .slice Ao12 y270.length co12, u274003] 50 (0, 0)) (by (with_reducible repeat (first | refine blk_drewN ?_ _ | refine blk_drew ?_ | refine blk_alloc ?_ _)); exact BK273.out) hg (Kd.R_ne HO286.out BK273.out (by decide)))
      have n7_ := Aside0.mk (blk_grown (g := gb275) (o := .cells #[.slice (some ad283) ((rd_T56 l0_3 x4_1).f0).length c274_0, .slice A274_1 ((rd_T56 l0_3 x4_1).f1).length c274_1, .int .i64 ((rd_T56 l0_3 x4_1).f2.f0), .int .i64 ((rd_T56 l0_3 x4_1).f2.f1), .slice A274_4 ((rd_T56 l0_3 x4_1).f2.f2).length c274_4] 56 (0, 0)) (by (with_reducible repeat (first | refine blk_drewN ?_ _ | refine blk_drew ?_ | refine blk_alloc ?_ _)); exact BK275.out) hg (Kd.R_ne HO286.out BK275.out (by decide)))
      have n8_ := Aside0.mk (blk_grown (g := gb282) (o := .cells #[u283000, .slice none 0 0, .int .i64 ((rd_T56 l0_3 x4_1).f2.f0), .int .i64 ((rd_T56 l0_3 x4_1).f2.f1), .slice Ao36 y279.length co36] 56 (0, 0)) (by (with_reducible repeat (first | refine blk_drewN ?_ _ | refine blk_drew ?_ | refine blk_alloc ?_ _)); exact BK282.out) hg (Kd.R_ne HO286.out BK282.out (by decide)))
      have n9_ := Aside0.mk (hb)
      have n10_ := Aside0.mk (ho)
      clear HO_274002
      clear HO_274003
      clear HO_283000
      clear HO_283004
      clear BK265
      clear BK266
      clear BK273
      clear BK275
      clear BK282
      clear HB
      clear HO286
      have HO_274002 := n0_
      have HO_274003 := n1_
      have HO_283000 := n2_
      have HO_283004 := n3_
      have BK265 := n4_
      have BK266 := n5_
      have BK273 := n6_
      have BK275 := n7_
      have BK282 := n8_
      have HB := n9_
      have HO290 := n10_
      clear n0_ n1_ n2_ n3_ n4_ n5_ n6_ n7_ n8_ n9_ n10_
      clear ho hb hg hat
      obtain ⟨Ao55, co55, eo55⟩ := Kd.R_slice HO290.out
      (first | subst eo55 | (injection eo55 with f1_ f2_ f3_; have f4_ := f1_.symm; have f5_ := f3_.symm; clear f1_ f2_ f3_; subst f4_; subst f5_))
      refine hK.out _ _ ⟨(blk_cell BK282.out 0).trans rfl, (blk_cell BK282.out 1).trans rfl, (blk_cell BK282.out 2).trans rfl, (blk_cell BK282.out 3).trans rfl, (blk_cell BK282.out 4).trans rfl, (blk_cell BK275.out 0).trans rfl, (blk_cell BK275.out 1).trans rfl, (blk_cell BK275.out 2).trans rfl, (blk_cell BK275.out 3).trans rfl, (blk_cell BK275.out 4).trans rfl, ((HB.out.cell (World.block_lt_of_cell? w _ hw283_0)).trans hw283_0), ((HB.out.cell (World.block_lt_of_cell? w _ hw283_1)).trans hw283_1), ((HB.out.cell (World.block_lt_of_cell? w _ hw287_0)).trans hw287_0), ((HB.out.cell (World.block_lt_of_cell? w _ hw287_1)).trans hw287_1)⟩ (fun hHeld => ?_)
      clear hK K
      refine norm_ (a' := ?_) ?_ ?_
      rotate_left
      · show Act.put _ (some 66) _ = _
        simp only [Act.put, List.setIfInBounds_toArray, List.set_cons_zero, List.set_cons_succ, i64_w, i32_w]
        rfl
      refine pu 16 67 (bt 21 131071) HT_.out ?_
      refine one_ (i := 17) (N := some 68) (bt 21 262143) rfl rfl (one_of HT_.out (by kernel_rfl)) (by decide) (fun K hK => ?_)
      refine value_ (w1 := ?_) (v := ?_) (by rfl) rfl ?_ ?_
      rotate_left 2
      · go_simp
        constructor
        · rfl
        rfl
      refine hK.out _ _ ⟨(blk_cell (blk_alloc BK282.out _) 0).trans rfl, (blk_cell (blk_alloc BK282.out _) 1).trans rfl, (blk_cell (blk_alloc BK282.out _) 2).trans rfl, (blk_cell (blk_alloc BK282.out _) 3).trans rfl, (blk_cell (blk_alloc BK282.out _) 4).trans rfl, (blk_cell (blk_alloc BK275.out _) 0).trans rfl, (blk_cell (blk_alloc BK275.out _) 1).trans rfl, (blk_cell (blk_alloc BK275.out _) 2).trans rfl, (blk_cell (blk_alloc BK275.out _) 3).trans rfl, (blk_cell (blk_alloc BK275.out _) 4).trans rfl, (World.cell?_alloc_lt _ _ _ (World.block_lt_of_cell? _ _ (((HB.out.cell (World.block_lt_of_cell? w _ hw283_0)).trans hw283_0)))).trans (((HB.out.cell (World.block_lt_of_cell? w _ hw283_0)).trans hw283_0)), (World.cell?_alloc_lt _ _ _ (World.block_lt_of_cell? _ _ (((HB.out.cell (World.block_lt_of_cell? w _ hw283_1)).trans hw283_1)))).trans (((HB.out.cell (World.block_lt_of_cell? w _ hw283_1)).trans hw283_1)), (World.cell?_alloc_lt _ _ _ (World.block_lt_of_cell? _ _ (((HB.out.cell (World.block_lt_of_cell? w _ hw287_0)).trans hw287_0)))).trans (((HB.out.cell (World.block_lt_of_cell? w _ hw287_0)).trans hw287_0)), (World.cell?_alloc_lt _ _ _ (World.block_lt_of_cell? _ _ (((HB.out.cell (World.block_lt_of_cell? w _ hw287_1)).trans hw287_1)))).trans (((HB.out.cell (World.block_lt_of_cell? w _ hw287_1)).trans hw287_1))⟩ (fun hHeld => ?_)
      clear hK K
      refine norm_ (a' := ?_) ?_ ?_
      rotate_left
      · show Act.put _ (some 68) _ = _
        simp only [Act.put, List.setIfInBounds_toArray, List.set_cons_zero, List.set_cons_succ, i64_w, i32_w]
        rfl
      refine one_ (i := 18) (N := some 69) (bt 21 524287) rfl rfl (one_of HT_.out (by kernel_rfl)) (by decide) (fun K hK => ?_)
      refine Kd.S_append_step k60 (w0 := w) w.heap.size (by rfl) (.tmp 52) (.tmp 68) 51 60 (.agg #[(.int .i64 0), (.slice none 0 0)]) 32 rfl Tryd.underlying51 info60 rfl (by decide) (by omega) u283000 x283000_2 (⟨(rd_T60 ((rd_T56 l0_3 x4_1).f0) x7_2).f0, y288⟩ : S60) [.int .i64 ((rd_T60 ((rd_T56 l0_3 x4_1).f0) x7_2).f0), .slice Ao55 y288.length co55] (fun k_ => some k_ ≠ (.slice Ao12 y270.length co12 : Value).ownBlock ∧ some k_ ≠ (.slice Ao36 y279.length co36 : Value).ownBlock) (fun k_ => some k_ = (.slice Ao55 y288.length co55 : Value).ownBlock) rfl rfl ?aP (fun k_ hk_ => ((R_mono (ok' := fun k_ => ((fun k_ => some k_ ≠ (.slice Ao12 y270.length co12 : Value).ownBlock ∧ some k_ ≠ (.slice Ao36 y279.length co36 : Value).ownBlock)) k_ ∧ some k_ ≠ (u283000 : Value).ownBlock) (Kd.R_apart' (HO290.out) (Kd.S_typed HO_283000.out) (by decide)) (fun k_ hk => ⟨⟨hk.1.1, hk.1.2⟩, hk.2⟩))).1 k_ hk_.symm) ?aF ?aO ?aB ?aS ?aL ?_
      (case aP => exact k60_mkM _ _ _ (⟨(rd_T60 ((rd_T56 l0_3 x4_1).f0) x7_2).f0, y288⟩ : S60) (R_mono (Kd.R_tight rfl (R_mono (ok' := fun k_ => ((fun k_ => some k_ ≠ (.slice Ao12 y270.length co12 : Value).ownBlock ∧ some k_ ≠ (.slice Ao36 y279.length co36 : Value).ownBlock)) k_ ∧ some k_ ≠ (u283000 : Value).ownBlock) (Kd.R_apart' (HO290.out) (Kd.S_typed HO_283000.out) (by decide)) (fun k_ hk => ⟨⟨hk.1.1, hk.1.2⟩, hk.2⟩))) (fun _ h_ => h_)))
      (case aB => exact (by repeat with_reducible first | exact HB.out | apply below_alloc | apply pw_below_drewN | apply below_drew1 | refine below_set ?_ GE265.out | refine below_set ?_ GE266.out | refine below_set ?_ GE273.out | refine below_set ?_ GE275.out | refine below_set ?_ GE282.out))
      (case aF => exact (fun k_ hk => ⟨Kd.fresh' (R_lt (by (with_reducible repeat (first | apply R_alloc | apply R_drewN | apply R_drew)); exact HO_274002.out)) k_ hk, Kd.fresh' (R_lt (by (with_reducible repeat (first | apply R_alloc | apply R_drewN | apply R_drew)); exact HO_283004.out)) k_ hk⟩))
      (case aO => exact (by (with_reducible repeat (first | apply S_alloc | apply S_drewN | apply S_drew)); exact S_mono HO_283000.out (fun k_ hk => ⟨⟨hk.1.1, hk.1.2⟩, fun e_ => hk.2 e_⟩)))
      (case aS => exact (below_size (by repeat with_reducible first | exact HB.out | apply below_alloc | apply pw_below_drewN | apply below_drew1 | refine below_set ?_ GE265.out | refine below_set ?_ GE266.out | refine below_set ?_ GE273.out | refine below_set ?_ GE275.out | refine below_set ?_ GE282.out)))
      (case aL => have := LMc45.out; omega)
      intro v292 w56 ho hb hg hat
      rw [← Ny291.out] at ho
      have n0_ := Aside0.mk (Kd.R_over' (by (with_reducible repeat (first | apply R_alloc | apply R_drewN | apply R_drew)); exact HO_274002.out) (Kd.S_typed (by (with_reducible repeat (first | apply S_alloc | apply S_drewN | apply S_drew)); exact HO_283000.out)) (by decide) hg)
      have n1_ := Aside0.mk (Kd.R_after (ok := (fun k_ => some k_ ≠ (.slice Ao12 y270.length co12 : Value).ownBlock ∧ some k_ ≠ (.slice Ao36 y279.length co36 : Value).ownBlock ∧ some k_ ≠ (.slice Ao55 y288.length co55 : Value).ownBlock ∧ k_ ≠ gb275 ∧ k_ ≠ gb282)) (by (with_reducible repeat (first | apply R_alloc | apply R_drewN | apply R_drew)); exact R_mono HO_274003.out (fun _ hk => ⟨⟨hk.1.1, ⟨hk.1.2.2.1, ⟨hk.2, ⟨hk.1.2.2.2.1, hk.1.2.2.2.2⟩⟩⟩⟩, hk.1.2.1⟩)) hg hat)
      have n2_ := Aside0.mk (Kd.R_over' (by (with_reducible repeat (first | apply R_alloc | apply R_drewN | apply R_drew)); exact HO_283004.out) (Kd.S_typed (by (with_reducible repeat (first | apply S_alloc | apply S_drewN | apply S_drew)); exact HO_283000.out)) (by decide) hg)
      have n3_ := Aside0.mk (blk_grown (g := gb265) (o := .cells #[.int .i64 a0_0, .int .i64 a0_1, .slice A0_2 l0_2.length c0_2, .slice (some ad274) l0_3.length c0_3] 50 (0, 0)) (by (with_reducible repeat (first | refine blk_drewN ?_ _ | refine blk_drew ?_ | refine blk_alloc ?_ _)); exact BK265.out) hg (Kd.S_ne HO_283000.out BK265.out (by decide)))
      have n4_ := Aside0.mk (blk_grown (g := gb266) (o := .cells #[.int .i64 0, .int .i64 0, .slice none 0 0, .slice none 0 0] 50 (0, 0)) (by (with_reducible repeat (first | refine blk_drewN ?_ _ | refine blk_drew ?_ | refine blk_alloc ?_ _)); exact BK266.out) hg (Kd.S_ne HO_283000.out BK266.out (by decide)))
      have n5_ := Aside0.mk (blk_grown (g := gb273) (o := .cells #[.int .i64 a0_0, .int .i64 a0_1, .slice Ao12 y270.length co12, u274003] 50 (0, 0)) (by (with_reducible repeat (first | refine blk_drewN ?_ _ | refine blk_drew ?_ | refine blk_alloc ?_ _)); exact BK273.out) hg (Kd.S_ne HO_283000.out BK273.out (by decide)))
      have n6_ := Aside0.mk (blk_grown (g := gb275) (o := .cells #[.slice (some ad283) ((rd_T56 l0_3 x4_1).f0).length c274_0, .slice A274_1 ((rd_T56 l0_3 x4_1).f1).length c274_1, .int .i64 ((rd_T56 l0_3 x4_1).f2.f0), .int .i64 ((rd_T56 l0_3 x4_1).f2.f1), .slice A274_4 ((rd_T56 l0_3 x4_1).f2.f2).length c274_4] 56 (0, 0)) (by (with_reducible repeat (first | refine blk_drewN ?_ _ | refine blk_drew ?_ | refine blk_alloc ?_ _)); exact BK275.out) hg (Kd.S_ne HO_283000.out BK275.out (by decide)))
      have n7_ := Aside0.mk (blk_grown (g := gb282) (o := .cells #[u283000, .slice none 0 0, .int .i64 ((rd_T56 l0_3 x4_1).f2.f0), .int .i64 ((rd_T56 l0_3 x4_1).f2.f1), .slice Ao36 y279.length co36] 56 (0, 0)) (by (with_reducible repeat (first | refine blk_drewN ?_ _ | refine blk_drew ?_ | refine blk_alloc ?_ _)); exact BK282.out) hg (Kd.S_ne HO_283000.out BK282.out (by decide)))
      have n8_ := Aside0.mk (hb)
      have n9_ := Aside0.mk (ho)
      clear HO_274002
      clear HO_274003
      clear HO_283004
      clear BK265
      clear BK266
      clear BK273
      clear BK275
      clear BK282
      clear HB
      clear HO_283000
      clear HO290
      have HO_274002 := n0_
      have HO_274003 := n1_
      have HO_283004 := n2_
      have BK265 := n3_
      have BK266 := n4_
      have BK273 := n5_
      have BK275 := n6_
      have BK282 := n7_
      have HB := n8_
      have HO293 := n9_
      clear n0_ n1_ n2_ n3_ n4_ n5_ n6_ n7_ n8_ n9_
      clear ho hb hg hat
      obtain ⟨Ao57, co57, eo57⟩ := Kd.S_slice HO293.out
      (first | subst eo57 | (injection eo57 with f1_ f2_ f3_; have f4_ := f1_.symm; have f5_ := f3_.symm; clear f1_ f2_ f3_; subst f4_; subst f5_))
      refine hK.out _ _ ⟨(blk_cell BK282.out 0).trans rfl, (blk_cell BK282.out 1).trans rfl, (blk_cell BK282.out 2).trans rfl, (blk_cell BK282.out 3).trans rfl, (blk_cell BK282.out 4).trans rfl, (blk_cell BK275.out 0).trans rfl, (blk_cell BK275.out 1).trans rfl, (blk_cell BK275.out 2).trans rfl, (blk_cell BK275.out 3).trans rfl, (blk_cell BK275.out 4).trans rfl, ((HB.out.cell (World.block_lt_of_cell? w _ hw283_0)).trans hw283_0), ((HB.out.cell (World.block_lt_of_cell? w _ hw283_1)).trans hw283_1), ((HB.out.cell (World.block_lt_of_cell? w _ hw287_0)).trans hw287_0), ((HB.out.cell (World.block_lt_of_cell? w _ hw287_1)).trans hw287_1)⟩ (fun hHeld => ?_)
      clear hK K
      refine norm_ (a' := ?_) ?_ ?_
      rotate_left
      · show Act.put _ (some 69) _ = _
        simp only [Act.put, List.setIfInBounds_toArray, List.set_cons_zero, List.set_cons_succ, i64_w, i32_w]
        rfl
      refine pu 19 70 (bt 21 1048575) HT_.out ?_
      refine last_ (i := 20) (N := none) (bt 21 2097151) rfl rfl (one_of HT_.out (by kernel_rfl)) (by decide) (fun K hK => ?_)
      have hs58 : w56.cell? ⟨gb282, 0, none⟩ = some (u283000) := (blk_cell BK282.out 0).trans rfl
      have hfs58 := blk_frozen BK282.out 0
      have hns58_0 := NB265_282.out
      have hns58_1 := NB266_282.out
      have hns58_2 := NB273_282.out
      have hns58_3 := NB275_282.out
      have hms58_0 := NB282_265.out
      have hms58_1 := NB282_266.out
      have hms58_2 := NB282_273.out
      have hms58_3 := NB282_275.out
      refine skip_ (w1 := ?_) (by rfl) rfl ?_ ?_
      rotate_left
      · go_simp
        rfl
      refine hK.out _ _ ?_
      clear hK K
      refine done_ (done_of HT_.out (by kernel_rfl)) ?_
      try go_wp2
      go_roundg k2
      case measure => have := HK1.out; have := HK2.out; omega
      case rel => exact ⟨(wrap64 (x7_2 + 1)), (y291), (.slice Ao57 y291.length co57), (by first | rfl | (simp; done) | (simp [*]; done)), H', ⟨by have := HK1.out; have := HK2.out; omega⟩, ⟨by (with_reducible repeat (first | apply R_alloc | apply R_drewN | apply R_drew)); exact R_mono (Kd.R_far (p := ⟨gb282, 0, none⟩) (Kd.R_types HO_274002.out BK282.out (by decide)) (fun _ hk => hk.2) (.slice Ao57 y291.length co57)) (fun _ hk => hk.1.1)⟩, ⟨by (with_reducible repeat (first | apply R_alloc | apply R_drewN | apply R_drew)); exact R_mono (Kd.R_far (p := ⟨gb282, 0, none⟩) (R_mono HO_274003.out (fun k_ hk => (⟨hk, hk.1.2.2.2.2⟩ : _ ∧ k_ ≠ gb282))) (fun _ hk => hk.2) (.slice Ao57 y291.length co57)) (fun _ hk => ⟨hk.1.1.1, ⟨hk.1.2, ⟨hk.1.1.2.1, ⟨hk.1.1.2.2.2.1, hk.1.1.2.2.2.2⟩⟩⟩⟩)⟩, ⟨by (with_reducible repeat (first | apply S_alloc | apply S_drewN | apply S_drew)); exact S_mono (Kd.S_far (p := ⟨gb282, 0, none⟩) (Kd.S_types HO293.out BK282.out (by decide)) (fun _ hk => hk.2) (.slice Ao57 y291.length co57)) (fun _ hk => ⟨hk.1.1, hk.1.2⟩)⟩, ⟨by (with_reducible repeat (first | apply R_alloc | apply R_drewN | apply R_drew)); exact R_mono (Kd.R_far (p := ⟨gb282, 0, none⟩) (Kd.R_types HO_283004.out BK282.out (by decide)) (fun _ hk => hk.2) (.slice Ao57 y291.length co57)) (fun _ hk => hk.1.1)⟩, ⟨by (with_reducible repeat (first | refine blk_drewN ?_ _ | refine blk_drew ?_ | refine blk_alloc ?_ _)); refine blk_far ?_ NB265_282.out _; (with_reducible repeat (first | refine blk_drewN ?_ _ | refine blk_drew ?_ | refine blk_alloc ?_ _)); exact BK265.out⟩, ⟨by (with_reducible repeat (first | refine blk_drewN ?_ _ | refine blk_drew ?_ | refine blk_alloc ?_ _)); refine blk_far ?_ NB266_282.out _; (with_reducible repeat (first | refine blk_drewN ?_ _ | refine blk_drew ?_ | refine blk_alloc ?_ _)); exact BK266.out⟩, ⟨by (with_reducible repeat (first | refine blk_drewN ?_ _ | refine blk_drew ?_ | refine blk_alloc ?_ _)); refine blk_far ?_ NB273_282.out _; (with_reducible repeat (first | refine blk_drewN ?_ _ | refine blk_drew ?_ | refine blk_alloc ?_ _)); exact BK273.out⟩, ⟨by (with_reducible repeat (first | refine blk_drewN ?_ _ | refine blk_drew ?_ | refine blk_alloc ?_ _)); refine blk_far ?_ NB275_282.out _; (with_reducible repeat (first | refine blk_drewN ?_ _ | refine blk_drew ?_ | refine blk_alloc ?_ _)); exact BK275.out⟩, ⟨by (with_reducible repeat (first | refine blk_drewN ?_ _ | refine blk_drew ?_ | refine blk_alloc ?_ _)); refine blk_put (cs := #[u283000, .slice none 0 0, .int .i64 ((rd_T56 l0_3 x4_1).f2.f0), .int .i64 ((rd_T56 l0_3 x4_1).f2.f1), .slice Ao36 y279.length co36]) ?_ 0 _ rfl; (with_reducible repeat (first | refine blk_drewN ?_ _ | refine blk_drew ?_ | refine blk_alloc ?_ _)); exact BK282.out⟩, ⟨by repeat (first | (with_reducible first | exact HB.out | apply below_alloc | apply pw_below_drewN | apply below_drew1 | refine below_set ?_ GE265.out | refine below_set ?_ GE266.out | refine below_set ?_ GE273.out | refine below_set ?_ GE275.out | refine below_set ?_ GE282.out) | exact HB.out)⟩⟩
    rw [if_neg c42] at H
    have c42b0 : decide (x7_2 < (((rd_T56 l0_3 x4_1).f0).length : Int)) = false := decide_eq_false c42
    clear c42
    have H' := Aside0.mk H
    clear H
    have hnb59 := NB275_265.out
    have hnc59 := NB265_275.out
    have hnb60 := NB275_266.out
    have hnc60 := NB266_275.out
    have hnb61 := NB275_273.out
    have hnc61 := NB273_275.out
    have hnb62 := NB275_282.out
    have hnc62 := NB282_275.out
    have hcz63_0 : wr.cell? ⟨gb275, 0, none⟩ = some (.slice A274_0 ((rd_T56 l0_3 x4_1).f0).length c274_0) := (blk_cell BK275.out 0).trans rfl
    have hcz63_1 : wr.cell? ⟨gb275, 1, none⟩ = some (.slice A274_1 ((rd_T56 l0_3 x4_1).f1).length c274_1) := (blk_cell BK275.out 1).trans rfl
    have hcz63_2 : wr.cell? ⟨gb275, 2, none⟩ = some (.int .i64 ((rd_T56 l0_3 x4_1).f2.f0)) := (blk_cell BK275.out 2).trans rfl
    have hcz63_3 : wr.cell? ⟨gb275, 3, none⟩ = some (.int .i64 ((rd_T56 l0_3 x4_1).f2.f1)) := (blk_cell BK275.out 3).trans rfl
    have hcz63_4 : wr.cell? ⟨gb275, 4, none⟩ = some (.slice A274_4 ((rd_T56 l0_3 x4_1).f2.f2).length c274_4) := (blk_cell BK275.out 4).trans rfl
    have hfz63_0 := blk_frozen BK275.out 0
    have hfz63_1 := blk_frozen BK275.out 1
    have hfz63_2 := blk_frozen BK275.out 2
    have hfz63_3 := blk_frozen BK275.out 3
    have hfz63_4 := blk_frozen BK275.out 4
    go_wp2
    go_loopg [8] k2 (fun kq v8 w' => ∃ (x8_3 : Int) (x283001_3 : List (S58)) (u283001 : Value), v8 = .int .i64 x8_3 ∧ Aside0 (fettleref02_CopyFunc.l2 kq x4_1 x8_3 a0_0 a0_1 l0_2 l0_3 a0_0 a0_1 y270 x274003_1 ((rd_T56 l0_3 x4_1).f0) ((rd_T56 l0_3 x4_1).f1) ((rd_T56 l0_3 x4_1).f2.f0) ((rd_T56 l0_3 x4_1).f2.f1) ((rd_T56 l0_3 x4_1).f2.f2) x283000_2 x283001_3 ((rd_T56 l0_3 x4_1).f2.f0) ((rd_T56 l0_3 x4_1).f2.f1) y279 = some (r1, r2, r3, r4)) ∧ Aside0 (kq ≤ k2) ∧ Aside0 (Kd.R (Kd.int .i64) 3 w' w.heap.size (fun k_ => some k_ ≠ ((.slice Ao36 y279.length co36) : Value).ownBlock) (.slice Ao12 y270.length co12) y270) ∧ Aside0 (Kd.R k56 56 w' w.heap.size (fun k_ => some k_ ≠ ((.slice Ao12 y270.length co12) : Value).ownBlock ∧ some k_ ≠ (u283000 : Value).ownBlock ∧ some k_ ≠ (u283001 : Value).ownBlock ∧ some k_ ≠ ((.slice Ao36 y279.length co36) : Value).ownBlock ∧ k_ ≠ gb275 ∧ k_ ≠ gb282) u274003 x274003_1) ∧ Aside0 (Kd.S k60 60 w' w.heap.size (fun k_ => some k_ ≠ ((.slice Ao12 y270.length co12) : Value).ownBlock ∧ some k_ ≠ ((.slice Ao36 y279.length co36) : Value).ownBlock) u283000 x283000_2) ∧ Aside0 (Kd.S k58 58 w' w.heap.size (fun k_ => some k_ ≠ ((.slice Ao12 y270.length co12) : Value).ownBlock ∧ some k_ ≠ ((.slice Ao36 y279.length co36) : Value).ownBlock) u283001 x283001_3) ∧ Aside0 (Kd.R (Kd.int .i64) 3 w' w.heap.size (fun k_ => some k_ ≠ ((.slice Ao12 y270.length co12) : Value).ownBlock) (.slice Ao36 y279.length co36) y279) ∧ Aside0 (w'.heap[gb265]? = some (.cells #[.int .i64 a0_0, .int .i64 a0_1, (.slice A0_2 l0_2.length c0_2), (.slice (some ad274) l0_3.length c0_3)] 50 (0, 0))) ∧ Aside0 (w'.heap[gb266]? = some (.cells #[.int .i64 0, .int .i64 0, (.slice none 0 0), (.slice none 0 0)] 50 (0, 0))) ∧ Aside0 (w'.heap[gb273]? = some (.cells #[.int .i64 a0_0, .int .i64 a0_1, (.slice Ao12 y270.length co12), u274003] 50 (0, 0))) ∧ Aside0 (w'.heap[gb275]? = some (.cells #[(.slice A274_0 ((rd_T56 l0_3 x4_1).f0).length c274_0), (.slice A274_1 ((rd_T56 l0_3 x4_1).f1).length c274_1), .int .i64 ((rd_T56 l0_3 x4_1).f2.f0), .int .i64 ((rd_T56 l0_3 x4_1).f2.f1), (.slice A274_4 ((rd_T56 l0_3 x4_1).f2.f2).length c274_4)] 56 (0, 0))) ∧ Aside0 (w'.heap[gb282]? = some (.cells #[u283000, u283001, .int .i64 ((rd_T56 l0_3 x4_1).f2.f0), .int .i64 ((rd_T56 l0_3 x4_1).f2.f1), (.slice Ao36 y279.length co36)] 56 (0, 0))) ∧ Aside0 (Below w.heap.size w w'))
    case atStart => exact ⟨(0), (([] : List (S58))), (.slice none 0 0), (by first | rfl | (simp; done) | (simp [*]; done)), H', ⟨Nat.le_refl _⟩, ⟨by (with_reducible repeat (first | apply R_alloc | apply R_drewN | apply R_drew)); exact HO_274002.out⟩, ⟨by (with_reducible repeat (first | apply R_alloc | apply R_drewN | apply R_drew)); exact R_mono HO_274003.out (fun _ hk => ⟨hk.1, ⟨hk.2.1, ⟨(by simp [Value.ownBlock]), ⟨hk.2.2.1, ⟨hk.2.2.2.1, hk.2.2.2.2⟩⟩⟩⟩⟩)⟩, ⟨by (with_reducible repeat (first | apply S_alloc | apply S_drewN | apply S_drew)); exact HO_283000.out⟩, ⟨by first | exact Kd.S_nil _ _ _ _ _ | exact Kd.N_nil _ _ _ _ _ | exact Kd.V_nil _ _ _ _ _ | exact Kd.Q_nil _ _ _ _ _ | exact Kd.R_nil _ _ _ _ _⟩, ⟨by (with_reducible repeat (first | apply R_alloc | apply R_drewN | apply R_drew)); exact HO_283004.out⟩, ⟨by (with_reducible repeat (first | refine blk_drewN ?_ _ | refine blk_drew ?_ | refine blk_alloc ?_ _)); exact BK265.out⟩, ⟨by (with_reducible repeat (first | refine blk_drewN ?_ _ | refine blk_drew ?_ | refine blk_alloc ?_ _)); exact BK266.out⟩, ⟨by (with_reducible repeat (first | refine blk_drewN ?_ _ | refine blk_drew ?_ | refine blk_alloc ?_ _)); exact BK273.out⟩, ⟨by (with_reducible repeat (first | refine blk_drewN ?_ _ | refine blk_drew ?_ | refine blk_alloc ?_ _)); exact BK275.out⟩, ⟨by (with_reducible repeat (first | refine blk_drewN ?_ _ | refine blk_drew ?_ | refine blk_alloc ?_ _)); exact BK282.out⟩, ⟨by repeat (first | (with_reducible first | exact HB.out | apply below_alloc | apply pw_below_drewN | apply below_drew1 | refine below_set ?_ GE265.out | refine below_set ?_ GE266.out | refine below_set ?_ GE273.out | refine below_set ?_ GE275.out | refine below_set ?_ GE282.out) | exact HB.out)⟩⟩
    clear H'
    try clear c1
    try clear c2
    try clear p2
    try clear q2
    try clear hx2
    try clear c4
    try clear c5
    try clear c6
    try clear p6
    try clear c19
    try clear c27
    try clear c28
    try clear p28
    try clear q28
    try clear hx28
    try clear c42
    try clear c42b0
    try clear c43
    try clear c43b0
    try clear c44
    try clear c45
    try clear c46
    try clear c47
    try clear c48
    try clear c49
    try clear c59
    try clear c60
    try clear c61
    try clear c62
    try clear hcz50_0
    try clear hcz50_1
    try clear hcz50_2
    try clear hcz50_3
    try clear hcz50_4
    try clear hcz63_0
    try clear hcz63_1
    try clear hcz63_2
    try clear hcz63_3
    try clear hcz63_4
    try clear hfz50_0
    try clear hfz50_1
    try clear hfz50_2
    try clear hfz50_3
    try clear hfz50_4
    try clear hfz63_0
    try clear hfz63_1
    try clear hfz63_2
    try clear hfz63_3
    try clear hfz63_4
    try clear hx283_0
    try clear hx283_1
    try clear hx287_0
    try clear hx287_1
    try clear p2
    try clear p283
    try clear p287
    try clear q283
    try clear q287
    obtain ⟨x8_3, x283001_3, u283001, rfl, HA, HK3, HO_274002, HO_274003, HO_283000, HO_283001, HO_283004, BK265, BK266, BK273, BK275, BK282, HB⟩ := hrel
    rcases gk with _ | k3
    · exact absurd HA.out (by simp [fettleref02_CopyFunc.l2])
    have H := HA.out
    clear HA
    simp only [fettleref02_CopyFunc.l2] at H
    by_cases c64 : x8_3 < (((rd_T56 l0_3 x4_1).f1).length : Int)
    · rw [if_pos c64] at H
      have c64b0 : decide (x8_3 < (((rd_T56 l0_3 x4_1).f1).length : Int)) = true := decide_eq_true c64
      clear c64
      by_cases c65 : 0 ≤ x8_3
      rotate_left
      · rw [if_neg c65] at H
        exact absurd H (by simp)
      rw [if_pos c65] at H
      have c65b0 : decide (0 ≤ x8_3) = true := decide_eq_true c65
      clear c65
      obtain ⟨y296, hy296⟩ : ∃ y_ : List Int, y_ = (([] : List Int)) := ⟨_, rfl⟩
      replace H : (if y296.length + ((rd_T58 ((rd_T56 l0_3 x4_1).f1) x8_3).f2).length < 17592186044416 then (if x283001_3.length < 2513169434916 then (fettleref02_CopyFunc.l2 k3 x4_1 (wrap64 (x8_3 + 1)) a0_0 a0_1 l0_2 l0_3 a0_0 a0_1 y270 x274003_1 ((rd_T56 l0_3 x4_1).f0) ((rd_T56 l0_3 x4_1).f1) ((rd_T56 l0_3 x4_1).f2.f0) ((rd_T56 l0_3 x4_1).f2.f1) ((rd_T56 l0_3 x4_1).f2.f2) x283000_2 (x283001_3 ++ [(⟨(rd_T58 ((rd_T56 l0_3 x4_1).f1) x8_3).f0, (rd_T58 ((rd_T56 l0_3 x4_1).f1) x8_3).f1, (y296 ++ ((rd_T58 ((rd_T56 l0_3 x4_1).f1) x8_3).f2)), (rd_T58 ((rd_T56 l0_3 x4_1).f1) x8_3).f3, (rd_T58 ((rd_T56 l0_3 x4_1).f1) x8_3).f4⟩ : S58)]) ((rd_T56 l0_3 x4_1).f2.f0) ((rd_T56 l0_3 x4_1).f2.f1) y279) else (none)) else (none)) = some (r1, r2, r3, r4) := by first | (rw [hy296]; with_reducible exact H) | (have H2_ := (Option.bind_some _ _).symm.trans H; rw [hy296]; with_reducible exact H2_) | exact H
      have Ny296 := Aside0.mk hy296
      clear hy296
      by_cases c66 : y296.length + ((rd_T58 ((rd_T56 l0_3 x4_1).f1) x8_3).f2).length < 17592186044416
      rotate_left
      · rw [if_neg c66] at H
        exact absurd H (by simp)
      rw [if_pos c66] at H
      have LMc66 := Aside0.mk c66
      clear c66
      obtain ⟨y299, hy299⟩ : ∃ y_ : List Int, y_ = (y296 ++ ((rd_T58 ((rd_T56 l0_3 x4_1).f1) x8_3).f2)) := ⟨_, rfl⟩
      replace H : (if x283001_3.length < 2513169434916 then (fettleref02_CopyFunc.l2 k3 x4_1 (wrap64 (x8_3 + 1)) a0_0 a0_1 l0_2 l0_3 a0_0 a0_1 y270 x274003_1 ((rd_T56 l0_3 x4_1).f0) ((rd_T56 l0_3 x4_1).f1) ((rd_T56 l0_3 x4_1).f2.f0) ((rd_T56 l0_3 x4_1).f2.f1) ((rd_T56 l0_3 x4_1).f2.f2) x283000_2 (x283001_3 ++ [(⟨(rd_T58 ((rd_T56 l0_3 x4_1).f1) x8_3).f0, (rd_T58 ((rd_T56 l0_3 x4_1).f1) x8_3).f1, y299, (rd_T58 ((rd_T56 l0_3 x4_1).f1) x8_3).f3, (rd_T58 ((rd_T56 l0_3 x4_1).f1) x8_3).f4⟩ : S58)]) ((rd_T56 l0_3 x4_1).f2.f0) ((rd_T56 l0_3 x4_1).f2.f1) y279) else (none)) = some (r1, r2, r3, r4) := by first | (rw [hy299]; with_reducible exact H) | (have H2_ := (Option.bind_some _ _).symm.trans H; rw [hy299]; with_reducible exact H2_) | exact H
      have Ny299 := Aside0.mk hy299
      clear hy299
      by_cases c67 : x283001_3.length < 2513169434916
      rotate_left
      · rw [if_neg c67] at H
        exact absurd H (by simp)
      rw [if_pos c67] at H
      have LMc67 := Aside0.mk c67
      clear c67
      obtain ⟨y302, hy302⟩ : ∃ y_ : List (S58), y_ = (x283001_3 ++ [(⟨(rd_T58 ((rd_T56 l0_3 x4_1).f1) x8_3).f0, (rd_T58 ((rd_T56 l0_3 x4_1).f1) x8_3).f1, y299, (rd_T58 ((rd_T56 l0_3 x4_1).f1) x8_3).f3, (rd_T58 ((rd_T56 l0_3 x4_1).f1) x8_3).f4⟩ : S58)]) := ⟨_, rfl⟩
      replace H : (fettleref02_CopyFunc.l2 k3 x4_1 (wrap64 (x8_3 + 1)) a0_0 a0_1 l0_2 l0_3 a0_0 a0_1 y270 x274003_1 ((rd_T56 l0_3 x4_1).f0) ((rd_T56 l0_3 x4_1).f1) ((rd_T56 l0_3 x4_1).f2.f0) ((rd_T56 l0_3 x4_1).f2.f1) ((rd_T56 l0_3 x4_1).f2.f2) x283000_2 y302 ((rd_T56 l0_3 x4_1).f2.f0) ((rd_T56 l0_3 x4_1).f2.f1) y279) = some (r1, r2, r3, r4) := by first | (rw [hy302]; with_reducible exact H) | (have H2_ := (Option.bind_some _ _).symm.trans H; rw [hy302]; with_reducible exact H2_) | exact H
      have Ny302 := Aside0.mk hy302
      clear hy302
      have H' := Aside0.mk H
      clear H
      have hnb68 := NB275_265.out
      have hnc68 := NB265_275.out
      have hnb69 := NB275_266.out
      have hnc69 := NB266_275.out
      have hnb70 := NB275_273.out
      have hnc70 := NB273_275.out
      have hnb71 := NB275_282.out
      have hnc71 := NB282_275.out
      have hcz72_0 : wr.cell? ⟨gb275, 0, none⟩ = some (.slice A274_0 ((rd_T56 l0_3 x4_1).f0).length c274_0) := (blk_cell BK275.out 0).trans rfl
      have hcz72_1 : wr.cell? ⟨gb275, 1, none⟩ = some (.slice A274_1 ((rd_T56 l0_3 x4_1).f1).length c274_1) := (blk_cell BK275.out 1).trans rfl
      have hcz72_2 : wr.cell? ⟨gb275, 2, none⟩ = some (.int .i64 ((rd_T56 l0_3 x4_1).f2.f0)) := (blk_cell BK275.out 2).trans rfl
      have hcz72_3 : wr.cell? ⟨gb275, 3, none⟩ = some (.int .i64 ((rd_T56 l0_3 x4_1).f2.f1)) := (blk_cell BK275.out 3).trans rfl
      have hcz72_4 : wr.cell? ⟨gb275, 4, none⟩ = some (.slice A274_4 ((rd_T56 l0_3 x4_1).f2.f2).length c274_4) := (blk_cell BK275.out 4).trans rfl
      have hfz72_0 := blk_frozen BK275.out 0
      have hfz72_1 := blk_frozen BK275.out 1
      have hfz72_2 := blk_frozen BK275.out 2
      have hfz72_3 := blk_frozen BK275.out 3
      have hfz72_4 := blk_frozen BK275.out 4
      have p294 : 0 ≤ (x8_3 : Int) := of_decide_eq_true (by with_reducible assumption)
      have q294 : x8_3 < (((rd_T56 l0_3 x4_1).f1).length : Int) := of_decide_eq_true (by with_reducible assumption)
      obtain ⟨ad294, A294_2, c294_2, e294, hx294_0, hx294_1, hx294_2, hx294_3, hx294_4, hl294_2, hi294_2⟩ := at_T58 HR274_1.out x8_3 p294 q294
      cases e294
      replace hx294_0 := (HB.out.cell (World.block_lt_of_cell? w _ hx294_0)).trans hx294_0
      replace hx294_1 := (HB.out.cell (World.block_lt_of_cell? w _ hx294_1)).trans hx294_1
      replace hx294_2 := (HB.out.cell (World.block_lt_of_cell? w _ hx294_2)).trans hx294_2
      replace hx294_3 := (HB.out.cell (World.block_lt_of_cell? w _ hx294_3)).trans hx294_3
      replace hx294_4 := (HB.out.cell (World.block_lt_of_cell? w _ hx294_4)).trans hx294_4
      have HR294_2 := Aside0.mk hi294_2
      have HC294_2 := Aside0.mk hl294_2
      clear hi294_2 hl294_2
      replace p294 := eq_true p294
      replace q294 := eq_true q294
      go_wp2_with (first | ((with_reducible refine gate_dst (N := 9) rfl ?_); refine box_event ?hg (N := 9) ?hd (cs := #[.int .i64 0, .int .i64 0, .slice none 0 0, .int .i64 0, .int .i64 0]) (t := 58) ?hr ?_; (case hd => rfl); (case hg => rfl); (case hr => first | (go_simp; done) | (go_simp; rfl)); intro gb295 hg w73 hbox hb; have n0_ := Aside0.mk (Kd.R_below (by (with_reducible repeat (first | apply R_alloc | apply R_drewN | apply R_drew)); exact HO_274002.out) hb); have n1_ := Aside0.mk (Kd.R_below (Kd.R_elderB (by (with_reducible repeat (first | apply R_alloc | apply R_drewN | apply R_drew)); exact HO_274003.out) gb295 (Nat.le_of_eq hg.symm)) hb); have n2_ := Aside0.mk (Kd.S_below (by (with_reducible repeat (first | apply S_alloc | apply S_drewN | apply S_drew)); exact HO_283000.out) hb); have n3_ := Aside0.mk (Kd.S_below (Kd.S_elderB (by (with_reducible repeat (first | apply S_alloc | apply S_drewN | apply S_drew)); exact HO_283001.out) gb295 (Nat.le_of_eq hg.symm)) hb); have n4_ := Aside0.mk (Kd.R_below (by (with_reducible repeat (first | apply R_alloc | apply R_drewN | apply R_drew)); exact HO_283004.out) hb); have n5_ := Aside0.mk (blk_below (g := gb265) (o := .cells #[.int .i64 a0_0, .int .i64 a0_1, .slice A0_2 l0_2.length c0_2, .slice (some ad274) l0_3.length c0_3] 50 (0, 0)) (by (with_reducible repeat (first | refine blk_drewN ?_ _ | refine blk_drew ?_ | refine blk_alloc ?_ _)); exact BK265.out) hb); have n6_ := Aside0.mk (blk_below (g := gb266) (o := .cells #[.int .i64 0, .int .i64 0, .slice none 0 0, .slice none 0 0] 50 (0, 0)) (by (with_reducible repeat (first | refine blk_drewN ?_ _ | refine blk_drew ?_ | refine blk_alloc ?_ _)); exact BK266.out) hb); have n7_ := Aside0.mk (blk_below (g := gb273) (o := .cells #[.int .i64 a0_0, .int .i64 a0_1, .slice Ao12 y270.length co12, u274003] 50 (0, 0)) (by (with_reducible repeat (first | refine blk_drewN ?_ _ | refine blk_drew ?_ | refine blk_alloc ?_ _)); exact BK273.out) hb); have n8_ := Aside0.mk (blk_below (g := gb275) (o := .cells #[.slice A274_0 ((rd_T56 l0_3 x4_1).f0).length c274_0, .slice (some ad294) ((rd_T56 l0_3 x4_1).f1).length c274_1, .int .i64 ((rd_T56 l0_3 x4_1).f2.f0), .int .i64 ((rd_T56 l0_3 x4_1).f2.f1), .slice A274_4 ((rd_T56 l0_3 x4_1).f2.f2).length c274_4] 56 (0, 0)) (by (with_reducible repeat (first | refine blk_drewN ?_ _ | refine blk_drew ?_ | refine blk_alloc ?_ _)); exact BK275.out) hb); have n9_ := Aside0.mk (blk_below (g := gb282) (o := .cells #[u283000, u283001, .int .i64 ((rd_T56 l0_3 x4_1).f2.f0), .int .i64 ((rd_T56 l0_3 x4_1).f2.f1), .slice Ao36 y279.length co36] 56 (0, 0)) (by (with_reducible repeat (first | refine blk_drewN ?_ _ | refine blk_drew ?_ | refine blk_alloc ?_ _)); exact BK282.out) hb); have n10_ := Aside0.mk (below_step (by repeat with_reducible first | exact HB.out | apply below_alloc | apply pw_below_drewN | apply below_drew1 | refine below_set ?_ GE265.out | refine below_set ?_ GE266.out | refine below_set ?_ GE273.out | refine below_set ?_ GE275.out | refine below_set ?_ GE282.out) hb); have n11_ := Aside0.mk (hbox); have n12_ := Aside0.mk ((by rw [hg]; exact (below_size (by repeat with_reducible first | exact HB.out | apply below_alloc | apply pw_below_drewN | apply below_drew1 | refine below_set ?_ GE265.out | refine below_set ?_ GE266.out | refine below_set ?_ GE273.out | refine below_set ?_ GE275.out | refine below_set ?_ GE282.out)) : w.heap.size ≤ gb295)); have n13_ := Aside0.mk ((by rw [hg]; exact (below_size (by repeat with_reducible first | exact HB.out | apply below_alloc | apply pw_below_drewN | apply below_drew1 | refine below_set ?_ GE265.out | refine below_set ?_ GE266.out | refine below_set ?_ GE273.out | refine below_set ?_ GE275.out | refine below_set ?_ GE282.out)) : w.heap.size ≤ gb295)); have n14_ := Aside0.mk ((by rw [hg]; exact Nat.ne_of_lt (blk_lt (g := gb265) (o := .cells #[.int .i64 a0_0, .int .i64 a0_1, .slice A0_2 l0_2.length c0_2, .slice (some ad274) l0_3.length c0_3] 50 (0, 0)) (by (with_reducible repeat (first | refine blk_drewN ?_ _ | refine blk_drew ?_ | refine blk_alloc ?_ _)); exact BK265.out)) : gb265 ≠ gb295)); have n15_ := Aside0.mk ((by rw [hg]; exact Nat.ne_of_gt (blk_lt (g := gb265) (o := .cells #[.int .i64 a0_0, .int .i64 a0_1, .slice A0_2 l0_2.length c0_2, .slice (some ad274) l0_3.length c0_3] 50 (0, 0)) (by (with_reducible repeat (first | refine blk_drewN ?_ _ | refine blk_drew ?_ | refine blk_alloc ?_ _)); exact BK265.out)) : gb295 ≠ gb265)); have n16_ := Aside0.mk ((by rw [hg]; exact Nat.ne_of_lt (blk_lt (g := gb266) (o := .cells #[.int .i64 0, .int .i64 0, .slice none 0 0, .slice none 0 0] 50 (0, 0)) (by (with_reducible repeat (first | refine blk_drewN ?_ _ | refine blk_drew ?_ | refine blk_alloc ?_ _)); exact BK266.out)) : gb266 ≠ gb295)); have n17_ := Aside0.mk ((by rw [hg]; exact Nat.ne_of_gt (blk_lt (g := gb266) (o := .cells #[.int .i64 0, .int .i64 0, .slice none 0 0, .slice none 0 0] 50 (0, 0)) (by (with_reducible repeat (first | refine blk_drewN ?_ _ | refine blk_drew ?_ | refine blk_alloc ?_ _)); exact BK266.out)) : gb295 ≠ gb266)); have n18_ := Aside0.mk ((by rw [hg]; exact Nat.ne_of_lt (blk_lt (g := gb273) (o := .cells #[.int .i64 a0_0, .int .i64 a0_1, .slice Ao12 y270.length co12, u274003] 50 (0, 0)) (by (with_reducible repeat (first | refine blk_drewN ?_ _ | refine blk_drew ?_ | refine blk_alloc ?_ _)); exact BK273.out)) : gb273 ≠ gb295)); have n19_ := Aside0.mk ((by rw [hg]; exact Nat.ne_of_gt (blk_lt (g := gb273) (o := .cells #[.int .i64 a0_0, .int .i64 a0_1, .slice Ao12 y270.length co12, u274003] 50 (0, 0)) (by (with_reducible repeat (first | refine blk_drewN ?_ _ | refine blk_drew ?_ | refine blk_alloc ?_ _)); exact BK273.out)) : gb295 ≠ gb273)); have n20_ := Aside0.mk ((by rw [hg]; exact Nat.ne_of_lt (blk_lt (g := gb275) (o := .cells #[.slice A274_0 ((rd_T56 l0_3 x4_1).f0).length c274_0, .slice (some ad294) ((rd_T56 l0_3 x4_1).f1).length c274_1, .int .i64 ((rd_T56 l0_3 x4_1).f2.f0), .int .i64 ((rd_T56 l0_3 x4_1).f2.f1), .slice A274_4 ((rd_T56 l0_3 x4_1).f2.f2).length c274_4] 56 (0, 0)) (by (with_reducible repeat (first | refine blk_drewN ?_ _ | refine blk_drew ?_ | refine blk_alloc ?_ _)); exact BK275.out)) : gb275 ≠ gb295)); have n21_ := Aside0.mk ((by rw [hg]; exact Nat.ne_of_gt (blk_lt (g := gb275) (o := .cells #[.slice A274_0 ((rd_T56 l0_3 x4_1).f0).length c274_0, .slice (some ad294) ((rd_T56 l0_3 x4_1).f1).length c274_1, .int .i64 ((rd_T56 l0_3 x4_1).f2.f0), .int .i64 ((rd_T56 l0_3 x4_1).f2.f1), .slice A274_4 ((rd_T56 l0_3 x4_1).f2.f2).length c274_4] 56 (0, 0)) (by (with_reducible repeat (first | refine blk_drewN ?_ _ | refine blk_drew ?_ | refine blk_alloc ?_ _)); exact BK275.out)) : gb295 ≠ gb275)); have n22_ := Aside0.mk ((by rw [hg]; exact Nat.ne_of_lt (blk_lt (g := gb282) (o := .cells #[u283000, u283001, .int .i64 ((rd_T56 l0_3 x4_1).f2.f0), .int .i64 ((rd_T56 l0_3 x4_1).f2.f1), .slice Ao36 y279.length co36] 56 (0, 0)) (by (with_reducible repeat (first | refine blk_drewN ?_ _ | refine blk_drew ?_ | refine blk_alloc ?_ _)); exact BK282.out)) : gb282 ≠ gb295)); have n23_ := Aside0.mk ((by rw [hg]; exact Nat.ne_of_gt (blk_lt (g := gb282) (o := .cells #[u283000, u283001, .int .i64 ((rd_T56 l0_3 x4_1).f2.f0), .int .i64 ((rd_T56 l0_3 x4_1).f2.f1), .slice Ao36 y279.length co36] 56 (0, 0)) (by (with_reducible repeat (first | refine blk_drewN ?_ _ | refine blk_drew ?_ | refine blk_alloc ?_ _)); exact BK282.out)) : gb295 ≠ gb282)); clear HO_274002; clear HO_274003; clear HO_283000; clear HO_283001; clear HO_283004; clear BK265; clear BK266; clear BK273; clear BK275; clear BK282; clear HB; have HO_274002 := n0_; have HO_274003 := n1_; have HO_283000 := n2_; have HO_283001 := n3_; have HO_283004 := n4_; have BK265 := n5_; have BK266 := n6_; have BK273 := n7_; have BK275 := n8_; have BK282 := n9_; have HB := n10_; have BK295 := n11_; have GW295 := n12_; have GE295 := n13_; have NB265_295 := n14_; have NB295_265 := n15_; have NB266_295 := n16_; have NB295_266 := n17_; have NB273_295 := n18_; have NB295_273 := n19_; have NB275_295 := n20_; have NB295_275 := n21_; have NB282_295 := n22_; have NB295_282 := n23_; clear n0_ n1_ n2_ n3_ n4_ n5_ n6_ n7_ n8_ n9_ n10_ n11_ n12_ n13_ n14_ n15_ n16_ n17_ n18_ n19_ n20_ n21_ n22_ n23_; clear hb hbox hg; have hnb74 := NB295_265.out; have hnc74 := NB265_295.out; have hnb75 := NB295_266.out; have hnc75 := NB266_295.out; have hnb76 := NB295_273.out; have hnc76 := NB273_295.out; have hnb77 := NB295_275.out; have hnc77 := NB275_295.out; have hnb78 := NB295_282.out; have hnc78 := NB282_295.out; have hcz79_0 : w73.cell? ⟨gb295, 0, none⟩ = some (.int .i64 0) := (blk_cell BK295.out 0).trans rfl; have hcz79_1 : w73.cell? ⟨gb295, 1, none⟩ = some (.int .i64 0) := (blk_cell BK295.out 1).trans rfl; have hcz79_2 : w73.cell? ⟨gb295, 2, none⟩ = some (.slice none 0 0) := (blk_cell BK295.out 2).trans rfl; have hcz79_3 : w73.cell? ⟨gb295, 3, none⟩ = some (.int .i64 0) := (blk_cell BK295.out 3).trans rfl; have hcz79_4 : w73.cell? ⟨gb295, 4, none⟩ = some (.int .i64 0) := (blk_cell BK295.out 4).trans rfl; have hfz79_0 := blk_frozen BK295.out 0; have hfz79_1 := blk_frozen BK295.out 1; have hfz79_2 := blk_frozen BK295.out 2; have hfz79_3 := blk_frozen BK295.out 3; have hfz79_4 := blk_frozen BK295.out 4) | ((with_reducible refine gate_dst (N := 83) rfl ?_); refine Kd.R_lit (Kd.int .i64) _ 3 ?hg (N := 83) ?hd (xs := ([] : List Int)) (inner := []) (ok := fun _ => True) (okp := fun _ => True) ?hr ?hp (fun _ hk => hk) trivial (Below.refl _ _) (Nat.le_refl _) (by simp) ?_; (case hd => rfl); (case hg => rfl); (case hr => first | (go_simp; done) | (go_simp; rfl)); (case hp => exact (Reps.none _ _)); intro v297 w80 ho81 hb hg_ hnew_; clear hg_ hnew_; rw [← Ny296.out] at ho81; have n0_ := Aside0.mk (R_elder' (by (with_reducible repeat (first | apply R_alloc | apply R_drewN | apply R_drew)); exact (R_mono (Kd.R_far (p := ⟨gb295, 4, none⟩) (Kd.R_far (p := ⟨gb295, 3, none⟩) (Kd.R_far (p := ⟨gb295, 2, none⟩) (Kd.R_far (p := ⟨gb295, 1, none⟩) (Kd.R_far (p := ⟨gb295, 0, none⟩) (Kd.R_types HO_274002.out BK295.out (by decide)) (fun _ hk => hk.2) (.int .i64 ((rd_T58 ((rd_T56 l0_3 x4_1).f1) x8_3).f0))) (fun _ hk => hk.2) (.int .i64 ((rd_T58 ((rd_T56 l0_3 x4_1).f1) x8_3).f1))) (fun _ hk => hk.2) (.slice A294_2 ((rd_T58 ((rd_T56 l0_3 x4_1).f1) x8_3).f2).length c294_2)) (fun _ hk => hk.2) (.int .i64 ((rd_T58 ((rd_T56 l0_3 x4_1).f1) x8_3).f3))) (fun _ hk => hk.2) (.int .i64 ((rd_T58 ((rd_T56 l0_3 x4_1).f1) x8_3).f4))) (fun _ h_ => h_.1))) (R_base ho81) hb); have n1_ := Aside0.mk (R_elder' (by (with_reducible repeat (first | apply R_alloc | apply R_drewN | apply R_drew)); exact (R_mono (Kd.R_far (p := ⟨gb295, 4, none⟩) (Kd.R_far (p := ⟨gb295, 3, none⟩) (Kd.R_far (p := ⟨gb295, 2, none⟩) (Kd.R_far (p := ⟨gb295, 1, none⟩) (Kd.R_far (p := ⟨gb295, 0, none⟩) (R_mono HO_274003.out (fun k_ hk => (⟨hk, hk.2⟩ : _ ∧ k_ ≠ gb295))) (fun _ hk => hk.2) (.int .i64 ((rd_T58 ((rd_T56 l0_3 x4_1).f1) x8_3).f0))) (fun _ hk => hk.2) (.int .i64 ((rd_T58 ((rd_T56 l0_3 x4_1).f1) x8_3).f1))) (fun _ hk => hk.2) (.slice A294_2 ((rd_T58 ((rd_T56 l0_3 x4_1).f1) x8_3).f2).length c294_2)) (fun _ hk => hk.2) (.int .i64 ((rd_T58 ((rd_T56 l0_3 x4_1).f1) x8_3).f3))) (fun _ hk => hk.2) (.int .i64 ((rd_T58 ((rd_T56 l0_3 x4_1).f1) x8_3).f4))) (fun _ h_ => h_.1))) (R_base ho81) hb); have n2_ := Aside0.mk (Kd.S_elder' (by (with_reducible repeat (first | apply S_alloc | apply S_drewN | apply S_drew)); exact (S_mono (Kd.S_far (p := ⟨gb295, 4, none⟩) (Kd.S_far (p := ⟨gb295, 3, none⟩) (Kd.S_far (p := ⟨gb295, 2, none⟩) (Kd.S_far (p := ⟨gb295, 1, none⟩) (Kd.S_far (p := ⟨gb295, 0, none⟩) (Kd.S_types HO_283000.out BK295.out (by decide)) (fun _ hk => hk.2) (.int .i64 ((rd_T58 ((rd_T56 l0_3 x4_1).f1) x8_3).f0))) (fun _ hk => hk.2) (.int .i64 ((rd_T58 ((rd_T56 l0_3 x4_1).f1) x8_3).f1))) (fun _ hk => hk.2) (.slice A294_2 ((rd_T58 ((rd_T56 l0_3 x4_1).f1) x8_3).f2).length c294_2)) (fun _ hk => hk.2) (.int .i64 ((rd_T58 ((rd_T56 l0_3 x4_1).f1) x8_3).f3))) (fun _ hk => hk.2) (.int .i64 ((rd_T58 ((rd_T56 l0_3 x4_1).f1) x8_3).f4))) (fun _ h_ => h_.1))) (R_base ho81) hb); have n3_ := Aside0.mk (Kd.S_elder' (by (with_reducible repeat (first | apply S_alloc | apply S_drewN | apply S_drew)); exact (S_mono (Kd.S_far (p := ⟨gb295, 4, none⟩) (Kd.S_far (p := ⟨gb295, 3, none⟩) (Kd.S_far (p := ⟨gb295, 2, none⟩) (Kd.S_far (p := ⟨gb295, 1, none⟩) (Kd.S_far (p := ⟨gb295, 0, none⟩) (S_mono HO_283001.out (fun k_ hk => (⟨hk, hk.2⟩ : _ ∧ k_ ≠ gb295))) (fun _ hk => hk.2) (.int .i64 ((rd_T58 ((rd_T56 l0_3 x4_1).f1) x8_3).f0))) (fun _ hk => hk.2) (.int .i64 ((rd_T58 ((rd_T56 l0_3 x4_1).f1) x8_3).f1))) (fun _ hk => hk.2) (.slice A294_2 ((rd_T58 ((rd_T56 l0_3 x4_1).f1) x8_3).f2).length c294_2)) (fun _ hk => hk.2) (.int .i64 ((rd_T58 ((rd_T56 l0_3 x4_1).f1) x8_3).f3))) (fun _ hk => hk.2) (.int .i64 ((rd_T58 ((rd_T56 l0_3 x4_1).f1) x8_3).f4))) (fun _ h_ => h_.1))) (R_base ho81) hb); have n4_ := Aside0.mk (R_elder' (by (with_reducible repeat (first | apply R_alloc | apply R_drewN | apply R_drew)); exact (R_mono (Kd.R_far (p := ⟨gb295, 4, none⟩) (Kd.R_far (p := ⟨gb295, 3, none⟩) (Kd.R_far (p := ⟨gb295, 2, none⟩) (Kd.R_far (p := ⟨gb295, 1, none⟩) (Kd.R_far (p := ⟨gb295, 0, none⟩) (Kd.R_types HO_283004.out BK295.out (by decide)) (fun _ hk => hk.2) (.int .i64 ((rd_T58 ((rd_T56 l0_3 x4_1).f1) x8_3).f0))) (fun _ hk => hk.2) (.int .i64 ((rd_T58 ((rd_T56 l0_3 x4_1).f1) x8_3).f1))) (fun _ hk => hk.2) (.slice A294_2 ((rd_T58 ((rd_T56 l0_3 x4_1).f1) x8_3).f2).length c294_2)) (fun _ hk => hk.2) (.int .i64 ((rd_T58 ((rd_T56 l0_3 x4_1).f1) x8_3).f3))) (fun _ hk => hk.2) (.int .i64 ((rd_T58 ((rd_T56 l0_3 x4_1).f1) x8_3).f4))) (fun _ h_ => h_.1))) (R_base ho81) hb); have n5_ := Aside0.mk (Kd.R_lower (R_new' (R_new' ho81 (R_lt (by (with_reducible repeat (first | apply R_alloc | apply R_drewN | apply R_drew)); exact (R_mono (Kd.R_far (p := ⟨gb295, 4, none⟩) (Kd.R_far (p := ⟨gb295, 3, none⟩) (Kd.R_far (p := ⟨gb295, 2, none⟩) (Kd.R_far (p := ⟨gb295, 1, none⟩) (Kd.R_far (p := ⟨gb295, 0, none⟩) (Kd.R_types HO_274002.out BK295.out (by decide)) (fun _ hk => hk.2) (.int .i64 ((rd_T58 ((rd_T56 l0_3 x4_1).f1) x8_3).f0))) (fun _ hk => hk.2) (.int .i64 ((rd_T58 ((rd_T56 l0_3 x4_1).f1) x8_3).f1))) (fun _ hk => hk.2) (.slice A294_2 ((rd_T58 ((rd_T56 l0_3 x4_1).f1) x8_3).f2).length c294_2)) (fun _ hk => hk.2) (.int .i64 ((rd_T58 ((rd_T56 l0_3 x4_1).f1) x8_3).f3))) (fun _ hk => hk.2) (.int .i64 ((rd_T58 ((rd_T56 l0_3 x4_1).f1) x8_3).f4))) (fun _ h_ => h_.1))))) (R_lt (by (with_reducible repeat (first | apply R_alloc | apply R_drewN | apply R_drew)); exact (R_mono (Kd.R_far (p := ⟨gb295, 4, none⟩) (Kd.R_far (p := ⟨gb295, 3, none⟩) (Kd.R_far (p := ⟨gb295, 2, none⟩) (Kd.R_far (p := ⟨gb295, 1, none⟩) (Kd.R_far (p := ⟨gb295, 0, none⟩) (Kd.R_types HO_283004.out BK295.out (by decide)) (fun _ hk => hk.2) (.int .i64 ((rd_T58 ((rd_T56 l0_3 x4_1).f1) x8_3).f0))) (fun _ hk => hk.2) (.int .i64 ((rd_T58 ((rd_T56 l0_3 x4_1).f1) x8_3).f1))) (fun _ hk => hk.2) (.slice A294_2 ((rd_T58 ((rd_T56 l0_3 x4_1).f1) x8_3).f2).length c294_2)) (fun _ hk => hk.2) (.int .i64 ((rd_T58 ((rd_T56 l0_3 x4_1).f1) x8_3).f3))) (fun _ hk => hk.2) (.int .i64 ((rd_T58 ((rd_T56 l0_3 x4_1).f1) x8_3).f4))) (fun _ h_ => h_.1))))) (below_size (by repeat with_reducible first | exact HB.out | apply below_alloc | apply pw_below_drewN | apply below_drew1 | refine below_set ?_ GE265.out | refine below_set ?_ GE266.out | refine below_set ?_ GE273.out | refine below_set ?_ GE275.out | refine below_set ?_ GE282.out | refine below_set ?_ GE295.out))); have n6_ := Aside0.mk (blk_below (g := gb265) (o := .cells #[.int .i64 a0_0, .int .i64 a0_1, .slice A0_2 l0_2.length c0_2, .slice (some ad274) l0_3.length c0_3] 50 (0, 0)) (by (with_reducible repeat (first | refine blk_drewN ?_ _ | refine blk_drew ?_ | refine blk_alloc ?_ _)); refine blk_far ?_ NB265_295.out _; (with_reducible repeat (first | refine blk_drewN ?_ _ | refine blk_drew ?_ | refine blk_alloc ?_ _)); refine blk_far ?_ NB265_295.out _; (with_reducible repeat (first | refine blk_drewN ?_ _ | refine blk_drew ?_ | refine blk_alloc ?_ _)); refine blk_far ?_ NB265_295.out _; (with_reducible repeat (first | refine blk_drewN ?_ _ | refine blk_drew ?_ | refine blk_alloc ?_ _)); refine blk_far ?_ NB265_295.out _; (with_reducible repeat (first | refine blk_drewN ?_ _ | refine blk_drew ?_ | refine blk_alloc ?_ _)); refine blk_far ?_ NB265_295.out _; (with_reducible repeat (first | refine blk_drewN ?_ _ | refine blk_drew ?_ | refine blk_alloc ?_ _)); exact BK265.out) hb); have n7_ := Aside0.mk (blk_below (g := gb266) (o := .cells #[.int .i64 0, .int .i64 0, .slice none 0 0, .slice none 0 0] 50 (0, 0)) (by (with_reducible repeat (first | refine blk_drewN ?_ _ | refine blk_drew ?_ | refine blk_alloc ?_ _)); refine blk_far ?_ NB266_295.out _; (with_reducible repeat (first | refine blk_drewN ?_ _ | refine blk_drew ?_ | refine blk_alloc ?_ _)); refine blk_far ?_ NB266_295.out _; (with_reducible repeat (first | refine blk_drewN ?_ _ | refine blk_drew ?_ | refine blk_alloc ?_ _)); refine blk_far ?_ NB266_295.out _; (with_reducible repeat (first | refine blk_drewN ?_ _ | refine blk_drew ?_ | refine blk_alloc ?_ _)); refine blk_far ?_ NB266_295.out _; (with_reducible repeat (first | refine blk_drewN ?_ _ | refine blk_drew ?_ | refine blk_alloc ?_ _)); refine blk_far ?_ NB266_295.out _; (with_reducible repeat (first | refine blk_drewN ?_ _ | refine blk_drew ?_ | refine blk_alloc ?_ _)); exact BK266.out) hb); have n8_ := Aside0.mk (blk_below (g := gb273) (o := .cells #[.int .i64 a0_0, .int .i64 a0_1, .slice Ao12 y270.length co12, u274003] 50 (0, 0)) (by (with_reducible repeat (first | refine blk_drewN ?_ _ | refine blk_drew ?_ | refine blk_alloc ?_ _)); refine blk_far ?_ NB273_295.out _; (with_reducible repeat (first | refine blk_drewN ?_ _ | refine blk_drew ?_ | refine blk_alloc ?_ _)); refine blk_far ?_ NB273_295.out _; (with_reducible repeat (first | refine blk_drewN ?_ _ | refine blk_drew ?_ | refine blk_alloc ?_ _)); refine blk_far ?_ NB273_295.out _; (with_reducible repeat (first | refine blk_drewN ?_ _ | refine blk_drew ?_ | refine blk_alloc ?_ _)); refine blk_far ?_ NB273_295.out _; (with_reducible repeat (first | refine blk_drewN ?_ _ | refine blk_drew ?_ | refine blk_alloc ?_ _)); refine blk_far ?_ NB273_295.out _; (with_reducible repeat (first | refine blk_drewN ?_ _ | refine blk_drew ?_ | refine blk_alloc ?_ _)); exact BK273.out) hb); have n9_ := Aside0.mk (blk_below (g := gb275) (o := .cells #[.slice A274_0 ((rd_T56 l0_3 x4_1).f0).length c274_0, .slice (some ad294) ((rd_T56 l0_3 x4_1).f1).length c274_1, .int .i64 ((rd_T56 l0_3 x4_1).f2.f0), .int .i64 ((rd_T56 l0_3 x4_1).f2.f1), .slice A274_4 ((rd_T56 l0_3 x4_1).f2.f2).length c274_4] 56 (0, 0)) (by (with_reducible repeat (first | refine blk_drewN ?_ _ | refine blk_drew ?_ | refine blk_alloc ?_ _)); refine blk_far ?_ NB275_295.out _; (with_reducible repeat (first | refine blk_drewN ?_ _ | refine blk_drew ?_ | refine blk_alloc ?_ _)); refine blk_far ?_ NB275_295.out _; (with_reducible repeat (first | refine blk_drewN ?_ _ | refine blk_drew ?_ | refine blk_alloc ?_ _)); refine blk_far ?_ NB275_295.out _; (with_reducible repeat (first | refine blk_drewN ?_ _ | refine blk_drew ?_ | refine blk_alloc ?_ _)); refine blk_far ?_ NB275_295.out _; (with_reducible repeat (first | refine blk_drewN ?_ _ | refine blk_drew ?_ | refine blk_alloc ?_ _)); refine blk_far ?_ NB275_295.out _; (with_reducible repeat (first | refine blk_drewN ?_ _ | refine blk_drew ?_ | refine blk_alloc ?_ _)); exact BK275.out) hb); have n10_ := Aside0.mk (blk_below (g := gb282) (o := .cells #[u283000, u283001, .int .i64 ((rd_T56 l0_3 x4_1).f2.f0), .int .i64 ((rd_T56 l0_3 x4_1).f2.f1), .slice Ao36 y279.length co36] 56 (0, 0)) (by (with_reducible repeat (first | refine blk_drewN ?_ _ | refine blk_drew ?_ | refine blk_alloc ?_ _)); refine blk_far ?_ NB282_295.out _; (with_reducible repeat (first | refine blk_drewN ?_ _ | refine blk_drew ?_ | refine blk_alloc ?_ _)); refine blk_far ?_ NB282_295.out _; (with_reducible repeat (first | refine blk_drewN ?_ _ | refine blk_drew ?_ | refine blk_alloc ?_ _)); refine blk_far ?_ NB282_295.out _; (with_reducible repeat (first | refine blk_drewN ?_ _ | refine blk_drew ?_ | refine blk_alloc ?_ _)); refine blk_far ?_ NB282_295.out _; (with_reducible repeat (first | refine blk_drewN ?_ _ | refine blk_drew ?_ | refine blk_alloc ?_ _)); refine blk_far ?_ NB282_295.out _; (with_reducible repeat (first | refine blk_drewN ?_ _ | refine blk_drew ?_ | refine blk_alloc ?_ _)); exact BK282.out) hb); have n11_ := Aside0.mk (blk_below (g := gb295) (o := .cells #[.int .i64 ((rd_T58 ((rd_T56 l0_3 x4_1).f1) x8_3).f0), .int .i64 ((rd_T58 ((rd_T56 l0_3 x4_1).f1) x8_3).f1), .slice A294_2 ((rd_T58 ((rd_T56 l0_3 x4_1).f1) x8_3).f2).length c294_2, .int .i64 ((rd_T58 ((rd_T56 l0_3 x4_1).f1) x8_3).f3), .int .i64 ((rd_T58 ((rd_T56 l0_3 x4_1).f1) x8_3).f4)] 58 (0, 0)) (by (with_reducible repeat (first | refine blk_drewN ?_ _ | refine blk_drew ?_ | refine blk_alloc ?_ _)); refine blk_put (cs := #[.int .i64 ((rd_T58 ((rd_T56 l0_3 x4_1).f1) x8_3).f0), .int .i64 ((rd_T58 ((rd_T56 l0_3 x4_1).f1) x8_3).f1), .slice A294_2 ((rd_T58 ((rd_T56 l0_3 x4_1).f1) x8_3).f2).length c294_2, .int .i64 ((rd_T58 ((rd_T56 l0_3 x4_1).f1) x8_3).f3), .int .i64 0]) ?_ 4 _ rfl; (with_reducible repeat (first | refine blk_drewN ?_ _ | refine blk_drew ?_ | refine blk_alloc ?_ _)); refine blk_put (cs := #[.int .i64 ((rd_T58 ((rd_T56 l0_3 x4_1).f1) x8_3).f0), .int .i64 ((rd_T58 ((rd_T56 l0_3 x4_1).f1) x8_3).f1), .slice A294_2 ((rd_T58 ((rd_T56 l0_3 x4_1).f1) x8_3).f2).length c294_2, .int .i64 0, .int .i64 0]) ?_ 3 _ rfl; (with_reducible repeat (first | refine blk_drewN ?_ _ | refine blk_drew ?_ | refine blk_alloc ?_ _)); refine blk_put (cs := #[.int .i64 ((rd_T58 ((rd_T56 l0_3 x4_1).f1) x8_3).f0), .int .i64 ((rd_T58 ((rd_T56 l0_3 x4_1).f1) x8_3).f1), .slice none 0 0, .int .i64 0, .int .i64 0]) ?_ 2 _ rfl; (with_reducible repeat (first | refine blk_drewN ?_ _ | refine blk_drew ?_ | refine blk_alloc ?_ _)); refine blk_put (cs := #[.int .i64 ((rd_T58 ((rd_T56 l0_3 x4_1).f1) x8_3).f0), .int .i64 0, .slice none 0 0, .int .i64 0, .int .i64 0]) ?_ 1 _ rfl; (with_reducible repeat (first | refine blk_drewN ?_ _ | refine blk_drew ?_ | refine blk_alloc ?_ _)); refine blk_put (cs := #[.int .i64 0, .int .i64 0, .slice none 0 0, .int .i64 0, .int .i64 0]) ?_ 0 _ rfl; (with_reducible repeat (first | refine blk_drewN ?_ _ | refine blk_drew ?_ | refine blk_alloc ?_ _)); exact BK295.out) hb); have n12_ := Aside0.mk (below_step (by repeat with_reducible first | exact HB.out | apply below_alloc | apply pw_below_drewN | apply below_drew1 | refine below_set ?_ GE265.out | refine below_set ?_ GE266.out | refine below_set ?_ GE273.out | refine below_set ?_ GE275.out | refine below_set ?_ GE282.out | refine below_set ?_ GE295.out) hb); clear HO_274002; clear HO_274003; clear HO_283000; clear HO_283001; clear HO_283004; clear BK265; clear BK266; clear BK273; clear BK275; clear BK282; clear BK295; clear HB; have HO_274002 := n0_; have HO_274003 := n1_; have HO_283000 := n2_; have HO_283001 := n3_; have HO_283004 := n4_; have HO298 := n5_; have BK265 := n6_; have BK266 := n7_; have BK273 := n8_; have BK275 := n9_; have BK282 := n10_; have BK295 := n11_; have HB := n12_; clear n0_ n1_ n2_ n3_ n4_ n5_ n6_ n7_ n8_ n9_ n10_ n11_ n12_; clear hb ho81; have hcz82_0 : w80.cell? ⟨gb295, 0, none⟩ = some (.int .i64 ((rd_T58 ((rd_T56 l0_3 x4_1).f1) x8_3).f0)) := (blk_cell BK295.out 0).trans rfl; have hcz82_1 : w80.cell? ⟨gb295, 1, none⟩ = some (.int .i64 ((rd_T58 ((rd_T56 l0_3 x4_1).f1) x8_3).f1)) := (blk_cell BK295.out 1).trans rfl; have hcz82_2 : w80.cell? ⟨gb295, 2, none⟩ = some (.slice A294_2 ((rd_T58 ((rd_T56 l0_3 x4_1).f1) x8_3).f2).length c294_2) := (blk_cell BK295.out 2).trans rfl; have hcz82_3 : w80.cell? ⟨gb295, 3, none⟩ = some (.int .i64 ((rd_T58 ((rd_T56 l0_3 x4_1).f1) x8_3).f3)) := (blk_cell BK295.out 3).trans rfl; have hcz82_4 : w80.cell? ⟨gb295, 4, none⟩ = some (.int .i64 ((rd_T58 ((rd_T56 l0_3 x4_1).f1) x8_3).f4)) := (blk_cell BK295.out 4).trans rfl; have hfz82_0 := blk_frozen BK295.out 0; have hfz82_1 := blk_frozen BK295.out 1; have hfz82_2 := blk_frozen BK295.out 2; have hfz82_3 := blk_frozen BK295.out 3; have hfz82_4 := blk_frozen BK295.out 4) | ((with_reducible refine gate_builtin (b := .append) (xs := #[.tmp 83, .tmp 85]) rfl ?_); at_builtin; refine Kd.R_append_rows (Kd.int .i64) (w0 := w) w.heap.size rfl (.tmp 83) (.tmp 85) 47 3 (.int .i64 0) 8 rfl Tryd.underlying47 info3 rfl (by decide) (by omega) v297 y296 ((rd_T58 ((rd_T56 l0_3 x4_1).f1) x8_3).f2) _ _ _ (fun k_ => some k_ ≠ (.slice Ao12 y270.length co12 : Value).ownBlock ∧ some k_ ≠ (.slice Ao36 y279.length co36 : Value).ownBlock) (fun _ => False) rfl rfl ?aO ?aR (fun _ _ h => h) (fun _ h => h.elim) ?aF ?aB ?aS ?aL ?_; (case aR => repeat (first | exact (C_below HR294_2.out HB.out) | (with_reducible refine C_alloc ?_ _) | (with_reducible refine C_drewN ?_ _) | (with_reducible refine C_drew ?_))); (case aB => exact (by repeat with_reducible first | exact HB.out | apply below_alloc | apply pw_below_drewN | apply below_drew1 | refine below_set ?_ GE265.out | refine below_set ?_ GE266.out | refine below_set ?_ GE273.out | refine below_set ?_ GE275.out | refine below_set ?_ GE282.out | refine below_set ?_ GE295.out)); (case aF => exact (fun k_ hk => ⟨Kd.fresh' (R_lt (by (with_reducible repeat (first | apply R_alloc | apply R_drewN | apply R_drew)); exact HO_274002.out)) k_ hk, Kd.fresh' (R_lt (by (with_reducible repeat (first | apply R_alloc | apply R_drewN | apply R_drew)); exact HO_283004.out)) k_ hk⟩)); (case aO => exact (by (with_reducible repeat (first | apply R_alloc | apply R_drewN | apply R_drew)); exact R_mono HO298.out (fun _ hk => ⟨hk.1.2, hk.2⟩))); (case aS => exact (below_size (by repeat with_reducible first | exact HB.out | apply below_alloc | apply pw_below_drewN | apply below_drew1 | refine below_set ?_ GE265.out | refine below_set ?_ GE266.out | refine below_set ?_ GE273.out | refine below_set ?_ GE275.out | refine below_set ?_ GE282.out | refine below_set ?_ GE295.out))); (case aL => have := LMc66.out; omega); intro v300 w83 ho hb hg hat; rw [← Ny299.out] at ho; have n0_ := Aside0.mk (Kd.R_after (ok := (fun k_ => some k_ ≠ (.slice Ao36 y279.length co36 : Value).ownBlock)) (by (with_reducible repeat (first | apply R_alloc | apply R_drewN | apply R_drew)); exact HO_274002.out) hg hat); have n1_ := Aside0.mk (Kd.R_after (ok := (fun k_ => some k_ ≠ (.slice Ao12 y270.length co12 : Value).ownBlock ∧ some k_ ≠ (u283000 : Value).ownBlock ∧ some k_ ≠ (u283001 : Value).ownBlock ∧ some k_ ≠ (.slice Ao36 y279.length co36 : Value).ownBlock ∧ k_ ≠ gb275 ∧ k_ ≠ gb282 ∧ k_ ≠ gb295)) (by (with_reducible repeat (first | apply R_alloc | apply R_drewN | apply R_drew)); exact R_mono HO_274003.out (fun _ hk => ⟨⟨hk.1.1.1, ⟨hk.1.1.2.1, ⟨hk.1.1.2.2.1, ⟨hk.1.1.2.2.2.1, ⟨hk.1.1.2.2.2.2.1, ⟨hk.1.1.2.2.2.2.2, hk.1.2⟩⟩⟩⟩⟩⟩, hk.2⟩)) hg hat); have n2_ := Aside0.mk (Kd.S_after (ok := (fun k_ => some k_ ≠ (.slice Ao12 y270.length co12 : Value).ownBlock ∧ some k_ ≠ (.slice Ao36 y279.length co36 : Value).ownBlock)) (by (with_reducible repeat (first | apply S_alloc | apply S_drewN | apply S_drew)); exact HO_283000.out) hg hat); have n3_ := Aside0.mk (Kd.S_after (ok := (fun k_ => some k_ ≠ (.slice Ao12 y270.length co12 : Value).ownBlock ∧ some k_ ≠ (.slice Ao36 y279.length co36 : Value).ownBlock ∧ k_ ≠ gb295)) (by (with_reducible repeat (first | apply S_alloc | apply S_drewN | apply S_drew)); exact S_mono HO_283001.out (fun _ hk => ⟨⟨hk.1.1.1, ⟨hk.1.1.2, hk.1.2⟩⟩, hk.2⟩)) hg hat); have n4_ := Aside0.mk (Kd.R_after (ok := (fun k_ => some k_ ≠ (.slice Ao12 y270.length co12 : Value).ownBlock)) (by (with_reducible repeat (first | apply R_alloc | apply R_drewN | apply R_drew)); exact HO_283004.out) hg hat); have n5_ := Aside0.mk (blk_grown (g := gb265) (o := .cells #[.int .i64 a0_0, .int .i64 a0_1, .slice A0_2 l0_2.length c0_2, .slice (some ad274) l0_3.length c0_3] 50 (0, 0)) (by (with_reducible repeat (first | refine blk_drewN ?_ _ | refine blk_drew ?_ | refine blk_alloc ?_ _)); exact BK265.out) hg (Kd.R_ne HO298.out BK265.out (by decide))); have n6_ := Aside0.mk (blk_grown (g := gb266) (o := .cells #[.int .i64 0, .int .i64 0, .slice none 0 0, .slice none 0 0] 50 (0, 0)) (by (with_reducible repeat (first | refine blk_drewN ?_ _ | refine blk_drew ?_ | refine blk_alloc ?_ _)); exact BK266.out) hg (Kd.R_ne HO298.out BK266.out (by decide))); have n7_ := Aside0.mk (blk_grown (g := gb273) (o := .cells #[.int .i64 a0_0, .int .i64 a0_1, .slice Ao12 y270.length co12, u274003] 50 (0, 0)) (by (with_reducible repeat (first | refine blk_drewN ?_ _ | refine blk_drew ?_ | refine blk_alloc ?_ _)); exact BK273.out) hg (Kd.R_ne HO298.out BK273.out (by decide))); have n8_ := Aside0.mk (blk_grown (g := gb275) (o := .cells #[.slice A274_0 ((rd_T56 l0_3 x4_1).f0).length c274_0, .slice (some ad294) ((rd_T56 l0_3 x4_1).f1).length c274_1, .int .i64 ((rd_T56 l0_3 x4_1).f2.f0), .int .i64 ((rd_T56 l0_3 x4_1).f2.f1), .slice A274_4 ((rd_T56 l0_3 x4_1).f2.f2).length c274_4] 56 (0, 0)) (by (with_reducible repeat (first | refine blk_drewN ?_ _ | refine blk_drew ?_ | refine blk_alloc ?_ _)); exact BK275.out) hg (Kd.R_ne HO298.out BK275.out (by decide))); have n9_ := Aside0.mk (blk_grown (g := gb282) (o := .cells #[u283000, u283001, .int .i64 ((rd_T56 l0_3 x4_1).f2.f0), .int .i64 ((rd_T56 l0_3 x4_1).f2.f1), .slice Ao36 y279.length co36] 56 (0, 0)) (by (with_reducible repeat (first | refine blk_drewN ?_ _ | refine blk_drew ?_ | refine blk_alloc ?_ _)); exact BK282.out) hg (Kd.R_ne HO298.out BK282.out (by decide))); have n10_ := Aside0.mk (blk_grown (g := gb295) (o := .cells #[.int .i64 ((rd_T58 ((rd_T56 l0_3 x4_1).f1) x8_3).f0), .int .i64 ((rd_T58 ((rd_T56 l0_3 x4_1).f1) x8_3).f1), .slice A294_2 ((rd_T58 ((rd_T56 l0_3 x4_1).f1) x8_3).f2).length c294_2, .int .i64 ((rd_T58 ((rd_T56 l0_3 x4_1).f1) x8_3).f3), .int .i64 ((rd_T58 ((rd_T56 l0_3 x4_1).f1) x8_3).f4)] 58 (0, 0)) (by (with_reducible repeat (first | refine blk_drewN ?_ _ | refine blk_drew ?_ | refine blk_alloc ?_ _)); exact BK295.out) hg (Kd.R_ne HO298.out BK295.out (by decide))); have n11_ := Aside0.mk (hb); have n12_ := Aside0.mk (ho); clear HO_274002; clear HO_274003; clear HO_283000; clear HO_283001; clear HO_283004; clear BK265; clear BK266; clear BK273; clear BK275; clear BK282; clear BK295; clear HB; clear HO298; have HO_274002 := n0_; have HO_274003 := n1_; have HO_283000 := n2_; have HO_283001 := n3_; have HO_283004 := n4_; have BK265 := n5_; have BK266 := n6_; have BK273 := n7_; have BK275 := n8_; have BK282 := n9_; have BK295 := n10_; have HB := n11_; have HO301 := n12_; clear n0_ n1_ n2_ n3_ n4_ n5_ n6_ n7_ n8_ n9_ n10_ n11_ n12_; clear ho hb hg hat; obtain ⟨Ao84, co84, eo84⟩ := Kd.R_slice HO301.out; subst eo84; have hcz85_0 : w83.cell? ⟨gb295, 0, none⟩ = some (.int .i64 ((rd_T58 ((rd_T56 l0_3 x4_1).f1) x8_3).f0)) := (blk_cell BK295.out 0).trans rfl; have hcz85_1 : w83.cell? ⟨gb295, 1, none⟩ = some (.int .i64 ((rd_T58 ((rd_T56 l0_3 x4_1).f1) x8_3).f1)) := (blk_cell BK295.out 1).trans rfl; have hcz85_2 : w83.cell? ⟨gb295, 2, none⟩ = some (.slice A294_2 ((rd_T58 ((rd_T56 l0_3 x4_1).f1) x8_3).f2).length c294_2) := (blk_cell BK295.out 2).trans rfl; have hcz85_3 : w83.cell? ⟨gb295, 3, none⟩ = some (.int .i64 ((rd_T58 ((rd_T56 l0_3 x4_1).f1) x8_3).f3)) := (blk_cell BK295.out 3).trans rfl; have hcz85_4 : w83.cell? ⟨gb295, 4, none⟩ = some (.int .i64 ((rd_T58 ((rd_T56 l0_3 x4_1).f1) x8_3).f4)) := (blk_cell BK295.out 4).trans rfl; have hfz85_0 := blk_frozen BK295.out 0; have hfz85_1 := blk_frozen BK295.out 1; have hfz85_2 := blk_frozen BK295.out 2; have hfz85_3 := blk_frozen BK295.out 3; have hfz85_4 := blk_frozen BK295.out 4) | ((with_reducible refine gate_store (t := 47) (p := 87) rfl ?_); refine store_event (t := 47) (p := 87) (v := ?vo_w86) (w1 := (w83.setCell ⟨gb295, 2, none⟩ (.slice Ao84 y299.length co84))) ?hg ?ho ?hn ?hr ?_; (case ho => rfl); (case hg => rfl); (case hn => rfl); (case hr => first | (go_simp; done) | (go_simp; rfl)); intro w86 hw; have n0_ : Aside0 (Kd.R (Kd.int .i64) 3 w86 w.heap.size (fun k_ => some k_ ≠ (.slice Ao36 y279.length co36 : Value).ownBlock ∧ some k_ ≠ (.slice Ao84 y299.length co84 : Value).ownBlock) (.slice Ao12 y270.length co12) y270) := ⟨(by rw [hw]; exact (by (with_reducible repeat (first | apply R_alloc | apply R_drewN | apply R_drew)); exact R_mono (Kd.R_far (p := ⟨gb295, 2, none⟩) (Kd.R_types HO_274002.out BK295.out (by decide)) (fun _ hk => hk.2) (.slice Ao84 y299.length co84)) (fun _ hk => ⟨hk.1.1, hk.1.2⟩)))⟩; have n1_ : Aside0 (Kd.R k56 56 w86 w.heap.size (fun k_ => some k_ ≠ (.slice Ao12 y270.length co12 : Value).ownBlock ∧ some k_ ≠ (u283000 : Value).ownBlock ∧ some k_ ≠ (u283001 : Value).ownBlock ∧ some k_ ≠ (.slice Ao36 y279.length co36 : Value).ownBlock ∧ some k_ ≠ (.slice Ao84 y299.length co84 : Value).ownBlock ∧ k_ ≠ gb275 ∧ k_ ≠ gb282 ∧ k_ ≠ gb295) u274003 x274003_1) := ⟨(by rw [hw]; exact (by (with_reducible repeat (first | apply R_alloc | apply R_drewN | apply R_drew)); exact R_mono (Kd.R_far (p := ⟨gb295, 2, none⟩) (R_mono HO_274003.out (fun k_ hk => (⟨hk, hk.1.2.2.2.2.2.2⟩ : _ ∧ k_ ≠ gb295))) (fun _ hk => hk.2) (.slice Ao84 y299.length co84)) (fun _ hk => ⟨hk.1.1.1, ⟨hk.1.1.2.1, ⟨hk.1.1.2.2.1, ⟨hk.1.1.2.2.2.1, ⟨hk.1.2, ⟨hk.1.1.2.2.2.2.1, ⟨hk.1.1.2.2.2.2.2.1, hk.1.1.2.2.2.2.2.2⟩⟩⟩⟩⟩⟩⟩)))⟩; have n2_ : Aside0 (Kd.S k60 60 w86 w.heap.size (fun k_ => some k_ ≠ (.slice Ao12 y270.length co12 : Value).ownBlock ∧ some k_ ≠ (.slice Ao36 y279.length co36 : Value).ownBlock ∧ some k_ ≠ (.slice Ao84 y299.length co84 : Value).ownBlock) u283000 x283000_2) := ⟨(by rw [hw]; exact (by (with_reducible repeat (first | apply S_alloc | apply S_drewN | apply S_drew)); exact S_mono (Kd.S_far (p := ⟨gb295, 2, none⟩) (Kd.S_types HO_283000.out BK295.out (by decide)) (fun _ hk => hk.2) (.slice Ao84 y299.length co84)) (fun _ hk => ⟨hk.1.1.1, ⟨hk.1.1.2, hk.1.2⟩⟩)))⟩; have n3_ : Aside0 (Kd.S k58 58 w86 w.heap.size (fun k_ => some k_ ≠ (.slice Ao12 y270.length co12 : Value).ownBlock ∧ some k_ ≠ (.slice Ao36 y279.length co36 : Value).ownBlock ∧ some k_ ≠ (.slice Ao84 y299.length co84 : Value).ownBlock ∧ k_ ≠ gb295) u283001 x283001_3) := ⟨(by rw [hw]; exact (by (with_reducible repeat (first | apply S_alloc | apply S_drewN | apply S_drew)); exact S_mono (Kd.S_far (p := ⟨gb295, 2, none⟩) (S_mono HO_283001.out (fun k_ hk => (⟨hk, hk.1.2.2⟩ : _ ∧ k_ ≠ gb295))) (fun _ hk => hk.2) (.slice Ao84 y299.length co84)) (fun _ hk => ⟨hk.1.1.1, ⟨hk.1.1.2.1, ⟨hk.1.2, hk.1.1.2.2⟩⟩⟩)))⟩; have n4_ : Aside0 (Kd.R (Kd.int .i64) 3 w86 w.heap.size (fun k_ => some k_ ≠ (.slice Ao12 y270.length co12 : Value).ownBlock ∧ some k_ ≠ (.slice Ao84 y299.length co84 : Value).ownBlock) (.slice Ao36 y279.length co36) y279) := ⟨(by rw [hw]; exact (by (with_reducible repeat (first | apply R_alloc | apply R_drewN | apply R_drew)); exact R_mono (Kd.R_far (p := ⟨gb295, 2, none⟩) (Kd.R_types HO_283004.out BK295.out (by decide)) (fun _ hk => hk.2) (.slice Ao84 y299.length co84)) (fun _ hk => ⟨hk.1.1, hk.1.2⟩)))⟩; have n5_ : Aside0 (Kd.R (Kd.int .i64) 3 w86 w.heap.size (fun k_ => some k_ ≠ (.slice Ao12 y270.length co12 : Value).ownBlock ∧ some k_ ≠ (.slice Ao36 y279.length co36 : Value).ownBlock) (.slice Ao84 y299.length co84) y299) := ⟨(by rw [hw]; exact (by (with_reducible repeat (first | apply R_alloc | apply R_drewN | apply R_drew)); exact R_mono (Kd.R_far (p := ⟨gb295, 2, none⟩) (Kd.R_types HO301.out BK295.out (by decide)) (fun _ hk => hk.2) (.slice Ao84 y299.length co84)) (fun _ hk => ⟨hk.1.1, hk.1.2⟩)))⟩; have n6_ : Aside0 (w86.heap[gb265]? = some (.cells #[.int .i64 a0_0, .int .i64 a0_1, .slice A0_2 l0_2.length c0_2, .slice (some ad274) l0_3.length c0_3] 50 (0, 0))) := ⟨(by rw [hw]; exact (by (with_reducible repeat (first | refine blk_drewN ?_ _ | refine blk_drew ?_ | refine blk_alloc ?_ _)); refine blk_far ?_ NB265_295.out _; (with_reducible repeat (first | refine blk_drewN ?_ _ | refine blk_drew ?_ | refine blk_alloc ?_ _)); exact BK265.out))⟩; have n7_ : Aside0 (w86.heap[gb266]? = some (.cells #[.int .i64 0, .int .i64 0, .slice none 0 0, .slice none 0 0] 50 (0, 0))) := ⟨(by rw [hw]; exact (by (with_reducible repeat (first | refine blk_drewN ?_ _ | refine blk_drew ?_ | refine blk_alloc ?_ _)); refine blk_far ?_ NB266_295.out _; (with_reducible repeat (first | refine blk_drewN ?_ _ | refine blk_drew ?_ | refine blk_alloc ?_ _)); exact BK266.out))⟩; have n8_ : Aside0 (w86.heap[gb273]? = some (.cells #[.int .i64 a0_0, .int .i64 a0_1, .slice Ao12 y270.length co12, u274003] 50 (0, 0))) := ⟨(by rw [hw]; exact (by (with_reducible repeat (first | refine blk_drewN ?_ _ | refine blk_drew ?_ | refine blk_alloc ?_ _)); refine blk_far ?_ NB273_295.out _; (with_reducible repeat (first | refine blk_drewN ?_ _ | refine blk_drew ?_ | refine blk_alloc ?_ _)); exact BK273.out))⟩; have n9_ : Aside0 (w86.heap[gb275]? = some (.cells #[.slice A274_0 ((rd_T56 l0_3 x4_1).f0).length c274_0, .slice (some ad294) ((rd_T56 l0_3 x4_1).f1).length c274_1, .int .i64 ((rd_T56 l0_3 x4_1).f2.f0), .int .i64 ((rd_T56 l0_3 x4_1).f2.f1), .slice A274_4 ((rd_T56 l0_3 x4_1).f2.f2).length c274_4] 56 (0, 0))) := ⟨(by rw [hw]; exact (by (with_reducible repeat (first | refine blk_drewN ?_ _ | refine blk_drew ?_ | refine blk_alloc ?_ _)); refine blk_far ?_ NB275_295.out _; (with_reducible repeat (first | refine blk_drewN ?_ _ | refine blk_drew ?_ | refine blk_alloc ?_ _)); exact BK275.out))⟩; have n10_ : Aside0 (w86.heap[gb282]? = some (.cells #[u283000, u283001, .int .i64 ((rd_T56 l0_3 x4_1).f2.f0), .int .i64 ((rd_T56 l0_3 x4_1).f2.f1), .slice Ao36 y279.length co36] 56 (0, 0))) := ⟨(by rw [hw]; exact (by (with_reducible repeat (first | refine blk_drewN ?_ _ | refine blk_drew ?_ | refine blk_alloc ?_ _)); refine blk_far ?_ NB282_295.out _; (with_reducible repeat (first | refine blk_drewN ?_ _ | refine blk_drew ?_ | refine blk_alloc ?_ _)); exact BK282.out))⟩; have n11_ : Aside0 (w86.heap[gb295]? = some (.cells #[.int .i64 ((rd_T58 ((rd_T56 l0_3 x4_1).f1) x8_3).f0), .int .i64 ((rd_T58 ((rd_T56 l0_3 x4_1).f1) x8_3).f1), .slice Ao84 y299.length co84, .int .i64 ((rd_T58 ((rd_T56 l0_3 x4_1).f1) x8_3).f3), .int .i64 ((rd_T58 ((rd_T56 l0_3 x4_1).f1) x8_3).f4)] 58 (0, 0))) := ⟨(by rw [hw]; exact (by (with_reducible repeat (first | refine blk_drewN ?_ _ | refine blk_drew ?_ | refine blk_alloc ?_ _)); refine blk_put (cs := #[.int .i64 ((rd_T58 ((rd_T56 l0_3 x4_1).f1) x8_3).f0), .int .i64 ((rd_T58 ((rd_T56 l0_3 x4_1).f1) x8_3).f1), .slice A294_2 ((rd_T58 ((rd_T56 l0_3 x4_1).f1) x8_3).f2).length c294_2, .int .i64 ((rd_T58 ((rd_T56 l0_3 x4_1).f1) x8_3).f3), .int .i64 ((rd_T58 ((rd_T56 l0_3 x4_1).f1) x8_3).f4)]) ?_ 2 _ rfl; (with_reducible repeat (first | refine blk_drewN ?_ _ | refine blk_drew ?_ | refine blk_alloc ?_ _)); exact BK295.out))⟩; have n12_ : Aside0 (Below w.heap.size w w86) := ⟨(by rw [hw]; exact (by repeat with_reducible first | exact HB.out | apply below_alloc | apply pw_below_drewN | apply below_drew1 | refine below_set ?_ GE265.out | refine below_set ?_ GE266.out | refine below_set ?_ GE273.out | refine below_set ?_ GE275.out | refine below_set ?_ GE282.out | refine below_set ?_ GE295.out))⟩; clear hw; clear HO_274002; clear HO_274003; clear HO_283000; clear HO_283001; clear HO_283004; clear HO301; clear BK265; clear BK266; clear BK273; clear BK275; clear BK282; clear BK295; clear HB; have HO_274002 := n0_; have HO_274003 := n1_; have HO_283000 := n2_; have HO_283001 := n3_; have HO_283004 := n4_; have HO301 := n5_; have BK265 := n6_; have BK266 := n7_; have BK273 := n8_; have BK275 := n9_; have BK282 := n10_; have BK295 := n11_; have HB := n12_; clear n0_ n1_ n2_ n3_ n4_ n5_ n6_ n7_ n8_ n9_ n10_ n11_ n12_; have hnb87 := NB282_265.out; have hnc87 := NB265_282.out; have hnb88 := NB282_266.out; have hnc88 := NB266_282.out; have hnb89 := NB282_273.out; have hnc89 := NB273_282.out; have hcz90_0 : w86.cell? ⟨gb282, 0, none⟩ = some (u283000) := (blk_cell BK282.out 0).trans rfl; have hcz90_1 : w86.cell? ⟨gb282, 1, none⟩ = some (u283001) := (blk_cell BK282.out 1).trans rfl; have hcz90_2 : w86.cell? ⟨gb282, 2, none⟩ = some (.int .i64 ((rd_T56 l0_3 x4_1).f2.f0)) := (blk_cell BK282.out 2).trans rfl; have hcz90_3 : w86.cell? ⟨gb282, 3, none⟩ = some (.int .i64 ((rd_T56 l0_3 x4_1).f2.f1)) := (blk_cell BK282.out 3).trans rfl; have hcz90_4 : w86.cell? ⟨gb282, 4, none⟩ = some (.slice Ao36 y279.length co36) := (blk_cell BK282.out 4).trans rfl; have hfz90_0 := blk_frozen BK282.out 0; have hfz90_1 := blk_frozen BK282.out 1; have hfz90_2 := blk_frozen BK282.out 2; have hfz90_3 := blk_frozen BK282.out 3; have hfz90_4 := blk_frozen BK282.out 4; have hcz91_0 : w86.cell? ⟨gb295, 0, none⟩ = some (.int .i64 ((rd_T58 ((rd_T56 l0_3 x4_1).f1) x8_3).f0)) := (blk_cell BK295.out 0).trans rfl; have hcz91_1 : w86.cell? ⟨gb295, 1, none⟩ = some (.int .i64 ((rd_T58 ((rd_T56 l0_3 x4_1).f1) x8_3).f1)) := (blk_cell BK295.out 1).trans rfl; have hcz91_2 : w86.cell? ⟨gb295, 2, none⟩ = some (.slice Ao84 y299.length co84) := (blk_cell BK295.out 2).trans rfl; have hcz91_3 : w86.cell? ⟨gb295, 3, none⟩ = some (.int .i64 ((rd_T58 ((rd_T56 l0_3 x4_1).f1) x8_3).f3)) := (blk_cell BK295.out 3).trans rfl; have hcz91_4 : w86.cell? ⟨gb295, 4, none⟩ = some (.int .i64 ((rd_T58 ((rd_T56 l0_3 x4_1).f1) x8_3).f4)) := (blk_cell BK295.out 4).trans rfl; have hfz91_0 := blk_frozen BK295.out 0; have hfz91_1 := blk_frozen BK295.out 1; have hfz91_2 := blk_frozen BK295.out 2; have hfz91_3 := blk_frozen BK295.out 3; have hfz91_4 := blk_frozen BK295.out 4) | ((with_reducible refine gate_builtin (b := .append) (xs := #[.tmp 89, .tmp 91]) rfl ?_); at_builtin; refine Kd.S_append k58 (w0 := w) w.heap.size rfl (.tmp 89) (.tmp 91) 52 58 (.agg #[(.int .i64 0), (.int .i64 0), (.slice none 0 0), (.int .i64 0), (.int .i64 0)]) 56 rfl Tryd.underlying52 info58 rfl (by decide) (by omega) u283001 x283001_3 (⟨(rd_T58 ((rd_T56 l0_3 x4_1).f1) x8_3).f0, (rd_T58 ((rd_T56 l0_3 x4_1).f1) x8_3).f1, y299, (rd_T58 ((rd_T56 l0_3 x4_1).f1) x8_3).f3, (rd_T58 ((rd_T56 l0_3 x4_1).f1) x8_3).f4⟩ : S58) [.int .i64 ((rd_T58 ((rd_T56 l0_3 x4_1).f1) x8_3).f0), .int .i64 ((rd_T58 ((rd_T56 l0_3 x4_1).f1) x8_3).f1), .slice Ao84 y299.length co84, .int .i64 ((rd_T58 ((rd_T56 l0_3 x4_1).f1) x8_3).f3), .int .i64 ((rd_T58 ((rd_T56 l0_3 x4_1).f1) x8_3).f4)] (fun k_ => some k_ ≠ (.slice Ao12 y270.length co12 : Value).ownBlock ∧ some k_ ≠ (.slice Ao36 y279.length co36 : Value).ownBlock ∧ k_ ≠ gb295) (fun k_ => some k_ = (.slice Ao84 y299.length co84 : Value).ownBlock) rfl rfl ?aP (fun k_ hk_ => ((R_mono (ok' := fun k_ => ((fun k_ => some k_ ≠ (.slice Ao12 y270.length co12 : Value).ownBlock ∧ some k_ ≠ (.slice Ao36 y279.length co36 : Value).ownBlock ∧ k_ ≠ gb295)) k_ ∧ some k_ ≠ (u283001 : Value).ownBlock) (Kd.R_types (Kd.R_apart' (HO301.out) (Kd.S_typed HO_283001.out) (by decide)) BK295.out (by decide)) (fun k_ hk => ⟨⟨hk.1.1.1, ⟨hk.1.1.2, hk.2⟩⟩, hk.1.2⟩))).1 k_ hk_.symm) ?aF ?aO ?aB ?aS ?aL ?_; (case aP => exact k58_mkM _ _ _ (⟨(rd_T58 ((rd_T56 l0_3 x4_1).f1) x8_3).f0, (rd_T58 ((rd_T56 l0_3 x4_1).f1) x8_3).f1, y299, (rd_T58 ((rd_T56 l0_3 x4_1).f1) x8_3).f3, (rd_T58 ((rd_T56 l0_3 x4_1).f1) x8_3).f4⟩ : S58) (R_mono (Kd.R_tight rfl (R_mono (ok' := fun k_ => ((fun k_ => some k_ ≠ (.slice Ao12 y270.length co12 : Value).ownBlock ∧ some k_ ≠ (.slice Ao36 y279.length co36 : Value).ownBlock ∧ k_ ≠ gb295)) k_ ∧ some k_ ≠ (u283001 : Value).ownBlock) (Kd.R_types (Kd.R_apart' (HO301.out) (Kd.S_typed HO_283001.out) (by decide)) BK295.out (by decide)) (fun k_ hk => ⟨⟨hk.1.1.1, ⟨hk.1.1.2, hk.2⟩⟩, hk.1.2⟩))) (fun _ h_ => h_))); (case aB => exact (by repeat with_reducible first | exact HB.out | apply below_alloc | apply pw_below_drewN | apply below_drew1 | refine below_set ?_ GE265.out | refine below_set ?_ GE266.out | refine below_set ?_ GE273.out | refine below_set ?_ GE275.out | refine below_set ?_ GE282.out | refine below_set ?_ GE295.out)); (case aF => exact (fun k_ hk => ⟨Kd.fresh' (R_lt (by (with_reducible repeat (first | apply R_alloc | apply R_drewN | apply R_drew)); exact HO_274002.out)) k_ hk, Kd.fresh' (R_lt (by (with_reducible repeat (first | apply R_alloc | apply R_drewN | apply R_drew)); exact HO_283004.out)) k_ hk, Kd.freshB (g := gb295) (o := .cells #[.int .i64 ((rd_T58 ((rd_T56 l0_3 x4_1).f1) x8_3).f0), .int .i64 ((rd_T58 ((rd_T56 l0_3 x4_1).f1) x8_3).f1), .slice Ao84 y299.length co84, .int .i64 ((rd_T58 ((rd_T56 l0_3 x4_1).f1) x8_3).f3), .int .i64 ((rd_T58 ((rd_T56 l0_3 x4_1).f1) x8_3).f4)] 58 (0, 0)) (by (with_reducible repeat (first | refine blk_drewN ?_ _ | refine blk_drew ?_ | refine blk_alloc ?_ _)); exact BK295.out) k_ hk⟩)); (case aO => exact (by (with_reducible repeat (first | apply S_alloc | apply S_drewN | apply S_drew)); exact S_mono HO_283001.out (fun k_ hk => ⟨⟨hk.1, ⟨hk.2.1, hk.2.2.2⟩⟩, fun e_ => hk.2.2.1 e_⟩))); (case aS => exact (below_size (by repeat with_reducible first | exact HB.out | apply below_alloc | apply pw_below_drewN | apply below_drew1 | refine below_set ?_ GE265.out | refine below_set ?_ GE266.out | refine below_set ?_ GE273.out | refine below_set ?_ GE275.out | refine below_set ?_ GE282.out | refine below_set ?_ GE295.out))); (case aL => have := LMc67.out; omega); intro v303 w92 ho hb hg hat; rw [← Ny302.out] at ho; have n0_ := Aside0.mk (Kd.R_over' (by (with_reducible repeat (first | apply R_alloc | apply R_drewN | apply R_drew)); exact HO_274002.out) (Kd.S_typed (by (with_reducible repeat (first | apply S_alloc | apply S_drewN | apply S_drew)); exact HO_283001.out)) (by decide) hg); have n1_ := Aside0.mk (Kd.R_after (ok := (fun k_ => some k_ ≠ (.slice Ao12 y270.length co12 : Value).ownBlock ∧ some k_ ≠ (u283000 : Value).ownBlock ∧ some k_ ≠ (.slice Ao36 y279.length co36 : Value).ownBlock ∧ some k_ ≠ (.slice Ao84 y299.length co84 : Value).ownBlock ∧ k_ ≠ gb275 ∧ k_ ≠ gb282 ∧ k_ ≠ gb295)) (by (with_reducible repeat (first | apply R_alloc | apply R_drewN | apply R_drew)); exact R_mono HO_274003.out (fun _ hk => ⟨⟨hk.1, ⟨hk.2.1, ⟨hk.2.2.2.1, ⟨hk.2.2.2.2.1, ⟨hk.2.2.2.2.2.1, ⟨hk.2.2.2.2.2.2.1, hk.2.2.2.2.2.2.2⟩⟩⟩⟩⟩⟩, hk.2.2.1⟩)) hg hat); have n2_ := Aside0.mk (Kd.S_over' (by (with_reducible repeat (first | apply S_alloc | apply S_drewN | apply S_drew)); exact HO_283000.out) (Kd.S_typed (by (with_reducible repeat (first | apply S_alloc | apply S_drewN | apply S_drew)); exact HO_283001.out)) (by decide) hg); have n3_ := Aside0.mk (Kd.R_over' (by (with_reducible repeat (first | apply R_alloc | apply R_drewN | apply R_drew)); exact HO_283004.out) (Kd.S_typed (by (with_reducible repeat (first | apply S_alloc | apply S_drewN | apply S_drew)); exact HO_283001.out)) (by decide) hg); have n4_ := Aside0.mk (blk_grown (g := gb265) (o := .cells #[.int .i64 a0_0, .int .i64 a0_1, .slice A0_2 l0_2.length c0_2, .slice (some ad274) l0_3.length c0_3] 50 (0, 0)) (by (with_reducible repeat (first | refine blk_drewN ?_ _ | refine blk_drew ?_ | refine blk_alloc ?_ _)); exact BK265.out) hg (Kd.S_ne HO_283001.out BK265.out (by decide))); have n5_ := Aside0.mk (blk_grown (g := gb266) (o := .cells #[.int .i64 0, .int .i64 0, .slice none 0 0, .slice none 0 0] 50 (0, 0)) (by (with_reducible repeat (first | refine blk_drewN ?_ _ | refine blk_drew ?_ | refine blk_alloc ?_ _)); exact BK266.out) hg (Kd.S_ne HO_283001.out BK266.out (by decide))); have n6_ := Aside0.mk (blk_grown (g := gb273) (o := .cells #[.int .i64 a0_0, .int .i64 a0_1, .slice Ao12 y270.length co12, u274003] 50 (0, 0)) (by (with_reducible repeat (first | refine blk_drewN ?_ _ | refine blk_drew ?_ | refine blk_alloc ?_ _)); exact BK273.out) hg (Kd.S_ne HO_283001.out BK273.out (by decide))); have n7_ := Aside0.mk (blk_grown (g := gb275) (o := .cells #[.slice A274_0 ((rd_T56 l0_3 x4_1).f0).length c274_0, .slice (some ad294) ((rd_T56 l0_3 x4_1).f1).length c274_1, .int .i64 ((rd_T56 l0_3 x4_1).f2.f0), .int .i64 ((rd_T56 l0_3 x4_1).f2.f1), .slice A274_4 ((rd_T56 l0_3 x4_1).f2.f2).length c274_4] 56 (0, 0)) (by (with_reducible repeat (first | refine blk_drewN ?_ _ | refine blk_drew ?_ | refine blk_alloc ?_ _)); exact BK275.out) hg (Kd.S_ne HO_283001.out BK275.out (by decide))); have n8_ := Aside0.mk (blk_grown (g := gb282) (o := .cells #[u283000, u283001, .int .i64 ((rd_T56 l0_3 x4_1).f2.f0), .int .i64 ((rd_T56 l0_3 x4_1).f2.f1), .slice Ao36 y279.length co36] 56 (0, 0)) (by (with_reducible repeat (first | refine blk_drewN ?_ _ | refine blk_drew ?_ | refine blk_alloc ?_ _)); exact BK282.out) hg (Kd.S_ne HO_283001.out BK282.out (by decide))); have n9_ := Aside0.mk (blk_grown (g := gb295) (o := .cells #[.int .i64 ((rd_T58 ((rd_T56 l0_3 x4_1).f1) x8_3).f0), .int .i64 ((rd_T58 ((rd_T56 l0_3 x4_1).f1) x8_3).f1), .slice Ao84 y299.length co84, .int .i64 ((rd_T58 ((rd_T56 l0_3 x4_1).f1) x8_3).f3), .int .i64 ((rd_T58 ((rd_T56 l0_3 x4_1).f1) x8_3).f4)] 58 (0, 0)) (by (with_reducible repeat (first | refine blk_drewN ?_ _ | refine blk_drew ?_ | refine blk_alloc ?_ _)); exact BK295.out) hg (Kd.S_away HO_283001.out (fun _ hk => hk.2.2.2))); have n10_ := Aside0.mk (hb); have n11_ := Aside0.mk (ho); clear HO_274002; clear HO_274003; clear HO_283000; clear HO_283004; clear BK265; clear BK266; clear BK273; clear BK275; clear BK282; clear BK295; clear HB; clear HO_283001; clear HO301; have HO_274002 := n0_; have HO_274003 := n1_; have HO_283000 := n2_; have HO_283004 := n3_; have BK265 := n4_; have BK266 := n5_; have BK273 := n6_; have BK275 := n7_; have BK282 := n8_; have BK295 := n9_; have HB := n10_; have HO304 := n11_; clear n0_ n1_ n2_ n3_ n4_ n5_ n6_ n7_ n8_ n9_ n10_ n11_; clear ho hb hg hat; obtain ⟨Ao93, co93, eo93⟩ := Kd.S_slice HO304.out; subst eo93; have hcz94_0 : w92.cell? ⟨gb282, 0, none⟩ = some (u283000) := (blk_cell BK282.out 0).trans rfl; have hcz94_1 : w92.cell? ⟨gb282, 1, none⟩ = some (u283001) := (blk_cell BK282.out 1).trans rfl; have hcz94_2 : w92.cell? ⟨gb282, 2, none⟩ = some (.int .i64 ((rd_T56 l0_3 x4_1).f2.f0)) := (blk_cell BK282.out 2).trans rfl; have hcz94_3 : w92.cell? ⟨gb282, 3, none⟩ = some (.int .i64 ((rd_T56 l0_3 x4_1).f2.f1)) := (blk_cell BK282.out 3).trans rfl; have hcz94_4 : w92.cell? ⟨gb282, 4, none⟩ = some (.slice Ao36 y279.length co36) := (blk_cell BK282.out 4).trans rfl; have hfz94_0 := blk_frozen BK282.out 0; have hfz94_1 := blk_frozen BK282.out 1; have hfz94_2 := blk_frozen BK282.out 2; have hfz94_3 := blk_frozen BK282.out 3; have hfz94_4 := blk_frozen BK282.out 4))
      go_roundg k3
      case measure => have := HK1.out; have := HK2.out; have := HK3.out; omega
      case rel => exact ⟨(wrap64 (x8_3 + 1)), (y302), (.slice Ao93 y302.length co93), (by first | rfl | (simp; done) | (simp [*]; done)), H', ⟨by have := HK1.out; have := HK2.out; have := HK3.out; omega⟩, ⟨by (with_reducible repeat (first | apply R_alloc | apply R_drewN | apply R_drew)); exact R_mono (Kd.R_far (p := ⟨gb282, 1, none⟩) (Kd.R_types HO_274002.out BK282.out (by decide)) (fun _ hk => hk.2) (.slice Ao93 y302.length co93)) (fun _ hk => hk.1.1)⟩, ⟨by (with_reducible repeat (first | apply R_alloc | apply R_drewN | apply R_drew)); exact R_mono (Kd.R_far (p := ⟨gb282, 1, none⟩) (R_mono HO_274003.out (fun k_ hk => (⟨hk, hk.1.2.2.2.2.2.1⟩ : _ ∧ k_ ≠ gb282))) (fun _ hk => hk.2) (.slice Ao93 y302.length co93)) (fun _ hk => ⟨hk.1.1.1, ⟨hk.1.1.2.1, ⟨hk.1.2, ⟨hk.1.1.2.2.1, ⟨hk.1.1.2.2.2.2.1, hk.1.1.2.2.2.2.2.1⟩⟩⟩⟩⟩)⟩, ⟨by (with_reducible repeat (first | apply S_alloc | apply S_drewN | apply S_drew)); exact S_mono (Kd.S_far (p := ⟨gb282, 1, none⟩) (Kd.S_types HO_283000.out BK282.out (by decide)) (fun _ hk => hk.2) (.slice Ao93 y302.length co93)) (fun _ hk => ⟨hk.1.1, hk.1.2.1⟩)⟩, ⟨by (with_reducible repeat (first | apply S_alloc | apply S_drewN | apply S_drew)); exact S_mono (Kd.S_far (p := ⟨gb282, 1, none⟩) (Kd.S_types HO304.out BK282.out (by decide)) (fun _ hk => hk.2) (.slice Ao93 y302.length co93)) (fun _ hk => ⟨hk.1.1, hk.1.2.1⟩)⟩, ⟨by (with_reducible repeat (first | apply R_alloc | apply R_drewN | apply R_drew)); exact R_mono (Kd.R_far (p := ⟨gb282, 1, none⟩) (Kd.R_types HO_283004.out BK282.out (by decide)) (fun _ hk => hk.2) (.slice Ao93 y302.length co93)) (fun _ hk => hk.1.1)⟩, ⟨by (with_reducible repeat (first | refine blk_drewN ?_ _ | refine blk_drew ?_ | refine blk_alloc ?_ _)); refine blk_far ?_ NB265_282.out _; (with_reducible repeat (first | refine blk_drewN ?_ _ | refine blk_drew ?_ | refine blk_alloc ?_ _)); exact BK265.out⟩, ⟨by (with_reducible repeat (first | refine blk_drewN ?_ _ | refine blk_drew ?_ | refine blk_alloc ?_ _)); refine blk_far ?_ NB266_282.out _; (with_reducible repeat (first | refine blk_drewN ?_ _ | refine blk_drew ?_ | refine blk_alloc ?_ _)); exact BK266.out⟩, ⟨by (with_reducible repeat (first | refine blk_drewN ?_ _ | refine blk_drew ?_ | refine blk_alloc ?_ _)); refine blk_far ?_ NB273_282.out _; (with_reducible repeat (first | refine blk_drewN ?_ _ | refine blk_drew ?_ | refine blk_alloc ?_ _)); exact BK273.out⟩, ⟨by (with_reducible repeat (first | refine blk_drewN ?_ _ | refine blk_drew ?_ | refine blk_alloc ?_ _)); refine blk_far ?_ NB275_282.out _; (with_reducible repeat (first | refine blk_drewN ?_ _ | refine blk_drew ?_ | refine blk_alloc ?_ _)); exact BK275.out⟩, ⟨by (with_reducible repeat (first | refine blk_drewN ?_ _ | refine blk_drew ?_ | refine blk_alloc ?_ _)); refine blk_put (cs := #[u283000, u283001, .int .i64 ((rd_T56 l0_3 x4_1).f2.f0), .int .i64 ((rd_T56 l0_3 x4_1).f2.f1), .slice Ao36 y279.length co36]) ?_ 1 _ rfl; (with_reducible repeat (first | refine blk_drewN ?_ _ | refine blk_drew ?_ | refine blk_alloc ?_ _)); exact BK282.out⟩, ⟨by repeat (first | (with_reducible first | exact HB.out | apply below_alloc | apply pw_below_drewN | apply below_drew1 | refine below_set ?_ GE265.out | refine below_set ?_ GE266.out | refine below_set ?_ GE273.out | refine below_set ?_ GE275.out | refine below_set ?_ GE282.out | refine below_set ?_ GE295.out) | exact HB.out)⟩⟩
    rw [if_neg c64] at H
    have c64b0 : decide (x8_3 < (((rd_T56 l0_3 x4_1).f1).length : Int)) = false := decide_eq_false c64
    clear c64
    by_cases c95 : x274003_1.length < 1599289640401
    rotate_left
    · rw [if_neg c95] at H
      exact absurd H (by simp)
    rw [if_pos c95] at H
    have LMc95 := Aside0.mk c95
    clear c95
    obtain ⟨y305, hy305⟩ : ∃ y_ : List (S56), y_ = (x274003_1 ++ [(⟨x283000_2, x283001_3, (⟨((rd_T56 l0_3 x4_1).f2.f0), ((rd_T56 l0_3 x4_1).f2.f1), y279⟩ : S54)⟩ : S56)]) := ⟨_, rfl⟩
    replace H : (fettleref02_CopyFunc.l0 k3 (wrap64 (x4_1 + 1)) a0_0 a0_1 l0_2 l0_3 a0_0 a0_1 y270 y305) = some (r1, r2, r3, r4) := by first | (rw [hy305]; with_reducible exact H) | (have H2_ := (Option.bind_some _ _).symm.trans H; rw [hy305]; with_reducible exact H2_) | exact H
    have Ny305 := Aside0.mk hy305
    clear hy305
    have H' := Aside0.mk H
    clear H
    have hnb96 := NB275_265.out
    have hnc96 := NB265_275.out
    have hnb97 := NB275_266.out
    have hnc97 := NB266_275.out
    have hnb98 := NB275_273.out
    have hnc98 := NB273_275.out
    have hnb99 := NB275_282.out
    have hnc99 := NB282_275.out
    have hcz100_0 : wr.cell? ⟨gb275, 0, none⟩ = some (.slice A274_0 ((rd_T56 l0_3 x4_1).f0).length c274_0) := (blk_cell BK275.out 0).trans rfl
    have hcz100_1 : wr.cell? ⟨gb275, 1, none⟩ = some (.slice A274_1 ((rd_T56 l0_3 x4_1).f1).length c274_1) := (blk_cell BK275.out 1).trans rfl
    have hcz100_2 : wr.cell? ⟨gb275, 2, none⟩ = some (.int .i64 ((rd_T56 l0_3 x4_1).f2.f0)) := (blk_cell BK275.out 2).trans rfl
    have hcz100_3 : wr.cell? ⟨gb275, 3, none⟩ = some (.int .i64 ((rd_T56 l0_3 x4_1).f2.f1)) := (blk_cell BK275.out 3).trans rfl
    have hcz100_4 : wr.cell? ⟨gb275, 4, none⟩ = some (.slice A274_4 ((rd_T56 l0_3 x4_1).f2.f2).length c274_4) := (blk_cell BK275.out 4).trans rfl
    have hfz100_0 := blk_frozen BK275.out 0
    have hfz100_1 := blk_frozen BK275.out 1
    have hfz100_2 := blk_frozen BK275.out 2
    have hfz100_3 := blk_frozen BK275.out 3
    have hfz100_4 := blk_frozen BK275.out 4
    have hnb101 := NB273_265.out
    have hnc101 := NB265_273.out
    have hnb102 := NB273_266.out
    have hnc102 := NB266_273.out
    have hnb103 := NB273_282.out
    have hnc103 := NB282_273.out
    have hcz104_0 : wr.cell? ⟨gb273, 0, none⟩ = some (.int .i64 a0_0) := (blk_cell BK273.out 0).trans rfl
    have hcz104_1 : wr.cell? ⟨gb273, 1, none⟩ = some (.int .i64 a0_1) := (blk_cell BK273.out 1).trans rfl
    have hcz104_2 : wr.cell? ⟨gb273, 2, none⟩ = some (.slice Ao12 y270.length co12) := (blk_cell BK273.out 2).trans rfl
    have hcz104_3 : wr.cell? ⟨gb273, 3, none⟩ = some (u274003) := (blk_cell BK273.out 3).trans rfl
    have hfz104_0 := blk_frozen BK273.out 0
    have hfz104_1 := blk_frozen BK273.out 1
    have hfz104_2 := blk_frozen BK273.out 2
    have hfz104_3 := blk_frozen BK273.out 3
    have hnb105 := NB282_265.out
    have hnc105 := NB265_282.out
    have hnb106 := NB282_266.out
    have hnc106 := NB266_282.out
    have hcz107_0 : wr.cell? ⟨gb282, 0, none⟩ = some (u283000) := (blk_cell BK282.out 0).trans rfl
    have hcz107_1 : wr.cell? ⟨gb282, 1, none⟩ = some (u283001) := (blk_cell BK282.out 1).trans rfl
    have hcz107_2 : wr.cell? ⟨gb282, 2, none⟩ = some (.int .i64 ((rd_T56 l0_3 x4_1).f2.f0)) := (blk_cell BK282.out 2).trans rfl
    have hcz107_3 : wr.cell? ⟨gb282, 3, none⟩ = some (.int .i64 ((rd_T56 l0_3 x4_1).f2.f1)) := (blk_cell BK282.out 3).trans rfl
    have hcz107_4 : wr.cell? ⟨gb282, 4, none⟩ = some (.slice Ao36 y279.length co36) := (blk_cell BK282.out 4).trans rfl
    have hfz107_0 := blk_frozen BK282.out 0
    have hfz107_1 := blk_frozen BK282.out 1
    have hfz107_2 := blk_frozen BK282.out 2
    have hfz107_3 := blk_frozen BK282.out 3
    have hfz107_4 := blk_frozen BK282.out 4
    obtain ⟨Ao109, co109, eo109⟩ := Kd.S_slice HO_283000.out
    subst eo109
    obtain ⟨Ao110, co110, eo110⟩ := Kd.S_slice HO_283001.out
    subst eo110
    go_wp2_with (first | ((with_reducible refine gate_builtin (b := .append) (xs := #[.tmp 95, .tmp 97]) rfl ?_); at_builtin; refine Kd.R_append k56 (w0 := w) w.heap.size rfl (.tmp 95) (.tmp 97) 48 56 (.agg #[(.slice none 0 0), (.slice none 0 0), (.int .i64 0), (.int .i64 0), (.slice none 0 0)]) 88 rfl Tryd.underlying48 info56 rfl (by decide) (by omega) u274003 x274003_1 (⟨x283000_2, x283001_3, (⟨((rd_T56 l0_3 x4_1).f2.f0), ((rd_T56 l0_3 x4_1).f2.f1), y279⟩ : S54)⟩ : S56) [.slice Ao109 x283000_2.length co109, .slice Ao110 x283001_3.length co110, .int .i64 ((rd_T56 l0_3 x4_1).f2.f0), .int .i64 ((rd_T56 l0_3 x4_1).f2.f1), .slice Ao36 y279.length co36] (fun k_ => some k_ ≠ (.slice Ao12 y270.length co12 : Value).ownBlock ∧ k_ ≠ gb275 ∧ k_ ≠ gb282) (fun k_ => ((fun k_ => some k_ ≠ (.slice Ao12 y270.length co12 : Value).ownBlock ∧ k_ ≠ gb275 ∧ k_ ≠ gb282)) k_ ∧ some k_ ≠ (u274003 : Value).ownBlock) rfl rfl ?aP (fun _ hk => hk) ?aF ?aO ?aB ?aS ?aL ?_; (case aP => exact k56_mkM _ _ _ (⟨x283000_2, x283001_3, (⟨((rd_T56 l0_3 x4_1).f2.f0), ((rd_T56 l0_3 x4_1).f2.f1), y279⟩ : S54)⟩ : S56) (R_mono (Kd.R_types (Kd.R_types (Kd.R_apart' ((Kd.S_R HO_283000.out)) (Kd.R_typed HO_274003.out) (by decide)) BK275.out (by decide)) BK282.out (by decide)) (fun k_ hk => ⟨⟨hk.1.1.1.1, ⟨hk.1.2, hk.2⟩⟩, hk.1.1.2⟩)) (R_mono (Kd.R_types (Kd.R_types (Kd.R_apart' ((Kd.S_R HO_283001.out)) (Kd.R_typed HO_274003.out) (by decide)) BK275.out (by decide)) BK282.out (by decide)) (fun k_ hk => ⟨⟨hk.1.1.1.1, ⟨hk.1.2, hk.2⟩⟩, hk.1.1.2⟩)) (R_mono (Kd.R_types (Kd.R_types (Kd.R_apart' (HO_283004.out) (Kd.R_typed HO_274003.out) (by decide)) BK275.out (by decide)) BK282.out (by decide)) (fun k_ hk => ⟨⟨hk.1.1.1, ⟨hk.1.2, hk.2⟩⟩, hk.1.1.2⟩))); (case aB => exact (by repeat with_reducible first | exact HB.out | apply below_alloc | apply pw_below_drewN | apply below_drew1 | refine below_set ?_ GE265.out | refine below_set ?_ GE266.out | refine below_set ?_ GE273.out | refine below_set ?_ GE275.out | refine below_set ?_ GE282.out)); (case aF => exact (fun k_ hk => ⟨Kd.fresh' (R_lt (by (with_reducible repeat (first | apply R_alloc | apply R_drewN | apply R_drew)); exact HO_274002.out)) k_ hk, Kd.freshB (g := gb275) (o := .cells #[.slice A274_0 ((rd_T56 l0_3 x4_1).f0).length c274_0, .slice A274_1 ((rd_T56 l0_3 x4_1).f1).length c274_1, .int .i64 ((rd_T56 l0_3 x4_1).f2.f0), .int .i64 ((rd_T56 l0_3 x4_1).f2.f1), .slice A274_4 ((rd_T56 l0_3 x4_1).f2.f2).length c274_4] 56 (0, 0)) (by (with_reducible repeat (first | refine blk_drewN ?_ _ | refine blk_drew ?_ | refine blk_alloc ?_ _)); exact BK275.out) k_ hk, Kd.freshB (g := gb282) (o := .cells #[.slice Ao109 x283000_2.length co109, .slice Ao110 x283001_3.length co110, .int .i64 ((rd_T56 l0_3 x4_1).f2.f0), .int .i64 ((rd_T56 l0_3 x4_1).f2.f1), .slice Ao36 y279.length co36] 56 (0, 0)) (by (with_reducible repeat (first | refine blk_drewN ?_ _ | refine blk_drew ?_ | refine blk_alloc ?_ _)); exact BK282.out) k_ hk⟩)); (case aO => exact (by (with_reducible repeat (first | apply R_alloc | apply R_drewN | apply R_drew)); exact R_mono HO_274003.out (fun _ hk => ⟨hk.1, ⟨hk.2.2.2.2.1, hk.2.2.2.2.2⟩⟩))); (case aS => exact (below_size (by repeat with_reducible first | exact HB.out | apply below_alloc | apply pw_below_drewN | apply below_drew1 | refine below_set ?_ GE265.out | refine below_set ?_ GE266.out | refine below_set ?_ GE273.out | refine below_set ?_ GE275.out | refine below_set ?_ GE282.out))); (case aL => have := LMc95.out; omega); intro v306 w108 ho hb hg hat; rw [← Ny305.out] at ho; have n0_ := Aside0.mk (Kd.R_over' (by (with_reducible repeat (first | apply R_alloc | apply R_drewN | apply R_drew)); exact HO_274002.out) (Kd.R_typed (by (with_reducible repeat (first | apply R_alloc | apply R_drewN | apply R_drew)); exact HO_274003.out)) (by decide) hg); have n1_ := Aside0.mk (blk_grown (g := gb265) (o := .cells #[.int .i64 a0_0, .int .i64 a0_1, .slice A0_2 l0_2.length c0_2, .slice (some ad274) l0_3.length c0_3] 50 (0, 0)) (by (with_reducible repeat (first | refine blk_drewN ?_ _ | refine blk_drew ?_ | refine blk_alloc ?_ _)); exact BK265.out) hg (Kd.R_ne HO_274003.out BK265.out (by decide))); have n2_ := Aside0.mk (blk_grown (g := gb266) (o := .cells #[.int .i64 0, .int .i64 0, .slice none 0 0, .slice none 0 0] 50 (0, 0)) (by (with_reducible repeat (first | refine blk_drewN ?_ _ | refine blk_drew ?_ | refine blk_alloc ?_ _)); exact BK266.out) hg (Kd.R_ne HO_274003.out BK266.out (by decide))); have n3_ := Aside0.mk (blk_grown (g := gb273) (o := .cells #[.int .i64 a0_0, .int .i64 a0_1, .slice Ao12 y270.length co12, u274003] 50 (0, 0)) (by (with_reducible repeat (first | refine blk_drewN ?_ _ | refine blk_drew ?_ | refine blk_alloc ?_ _)); exact BK273.out) hg (Kd.R_ne HO_274003.out BK273.out (by decide))); have n4_ := Aside0.mk (blk_grown (g := gb275) (o := .cells #[.slice A274_0 ((rd_T56 l0_3 x4_1).f0).length c274_0, .slice A274_1 ((rd_T56 l0_3 x4_1).f1).length c274_1, .int .i64 ((rd_T56 l0_3 x4_1).f2.f0), .int .i64 ((rd_T56 l0_3 x4_1).f2.f1), .slice A274_4 ((rd_T56 l0_3 x4_1).f2.f2).length c274_4] 56 (0, 0)) (by (with_reducible repeat (first | refine blk_drewN ?_ _ | refine blk_drew ?_ | refine blk_alloc ?_ _)); exact BK275.out) hg (Kd.R_away HO_274003.out (fun _ hk => hk.2.2.2.2.1))); have n5_ := Aside0.mk (blk_grown (g := gb282) (o := .cells #[.slice Ao109 x283000_2.length co109, .slice Ao110 x283001_3.length co110, .int .i64 ((rd_T56 l0_3 x4_1).f2.f0), .int .i64 ((rd_T56 l0_3 x4_1).f2.f1), .slice Ao36 y279.length co36] 56 (0, 0)) (by (with_reducible repeat (first | refine blk_drewN ?_ _ | refine blk_drew ?_ | refine blk_alloc ?_ _)); exact BK282.out) hg (Kd.R_away HO_274003.out (fun _ hk => hk.2.2.2.2.2))); have n6_ := Aside0.mk (hb); have n7_ := Aside0.mk (ho); clear HO_274002; clear BK265; clear BK266; clear BK273; clear BK275; clear BK282; clear HB; clear HO_274003; clear HO_283000; clear HO_283001; clear HO_283004; have HO_274002 := n0_; have BK265 := n1_; have BK266 := n2_; have BK273 := n3_; have BK275 := n4_; have BK282 := n5_; have HB := n6_; have HO307 := n7_; clear n0_ n1_ n2_ n3_ n4_ n5_ n6_ n7_; clear ho hb hg hat; obtain ⟨Ao111, co111, eo111⟩ := Kd.R_slice HO307.out; subst eo111; have hcz112_0 : w108.cell? ⟨gb273, 0, none⟩ = some (.int .i64 a0_0) := (blk_cell BK273.out 0).trans rfl; have hcz112_1 : w108.cell? ⟨gb273, 1, none⟩ = some (.int .i64 a0_1) := (blk_cell BK273.out 1).trans rfl; have hcz112_2 : w108.cell? ⟨gb273, 2, none⟩ = some (.slice Ao12 y270.length co12) := (blk_cell BK273.out 2).trans rfl; have hcz112_3 : w108.cell? ⟨gb273, 3, none⟩ = some (u274003) := (blk_cell BK273.out 3).trans rfl; have hfz112_0 := blk_frozen BK273.out 0; have hfz112_1 := blk_frozen BK273.out 1; have hfz112_2 := blk_frozen BK273.out 2; have hfz112_3 := blk_frozen BK273.out 3))
    go_roundg k3
    case measure => have := HK1.out; have := HK2.out; have := HK3.out; omega
    case rel => exact ⟨(wrap64 (x4_1 + 1)), (y305), (.slice Ao111 y305.length co111), (by first | rfl | (simp; done) | (simp [*]; done)), H', ⟨by have := HK1.out; have := HK2.out; have := HK3.out; omega⟩, ⟨by (with_reducible repeat (first | apply R_alloc | apply R_drewN | apply R_drew)); exact R_mono (Kd.R_far (p := ⟨gb273, 3, none⟩) (Kd.R_types HO_274002.out BK273.out (by decide)) (fun _ hk => hk.2) (.slice Ao111 y305.length co111)) (fun _ hk => trivial)⟩, ⟨by (with_reducible repeat (first | apply R_alloc | apply R_drewN | apply R_drew)); exact R_mono (Kd.R_far (p := ⟨gb273, 3, none⟩) (Kd.R_types HO307.out BK273.out (by decide)) (fun _ hk => hk.2) (.slice Ao111 y305.length co111)) (fun _ hk => hk.1.1)⟩, ⟨by (with_reducible repeat (first | refine blk_drewN ?_ _ | refine blk_drew ?_ | refine blk_alloc ?_ _)); refine blk_far ?_ NB265_273.out _; (with_reducible repeat (first | refine blk_drewN ?_ _ | refine blk_drew ?_ | refine blk_alloc ?_ _)); exact BK265.out⟩, ⟨by (with_reducible repeat (first | refine blk_drewN ?_ _ | refine blk_drew ?_ | refine blk_alloc ?_ _)); refine blk_far ?_ NB266_273.out _; (with_reducible repeat (first | refine blk_drewN ?_ _ | refine blk_drew ?_ | refine blk_alloc ?_ _)); exact BK266.out⟩, ⟨by (with_reducible repeat (first | refine blk_drewN ?_ _ | refine blk_drew ?_ | refine blk_alloc ?_ _)); refine blk_put (cs := #[.int .i64 a0_0, .int .i64 a0_1, .slice Ao12 y270.length co12, u274003]) ?_ 3 _ rfl; (with_reducible repeat (first | refine blk_drewN ?_ _ | refine blk_drew ?_ | refine blk_alloc ?_ _)); exact BK273.out⟩, ⟨by repeat (first | (with_reducible first | exact HB.out | apply below_alloc | apply pw_below_drewN | apply below_drew1 | refine below_set ?_ GE265.out | refine below_set ?_ GE266.out | refine below_set ?_ GE273.out | refine below_set ?_ GE275.out | refine below_set ?_ GE282.out) | exact HB.out)⟩⟩
  rw [if_neg c17] at H
  have c17b0 : decide (x4_1 < (l0_3.length : Int)) = false := decide_eq_false c17
  clear c17
  simp only [Option.some.injEq, Prod.mk.injEq] at H
  obtain ⟨rfl, rfl, rfl, rfl⟩ := H
  have hnb113 := NB265_266.out
  have hnc113 := NB266_265.out
  have hnb114 := NB265_273.out
  have hnc114 := NB273_265.out
  have hcz115_0 : wr.cell? ⟨gb265, 0, none⟩ = some (.int .i64 a0_0) := (blk_cell BK265.out 0).trans rfl
  have hcz115_1 : wr.cell? ⟨gb265, 1, none⟩ = some (.int .i64 a0_1) := (blk_cell BK265.out 1).trans rfl
  have hcz115_2 : wr.cell? ⟨gb265, 2, none⟩ = some (.slice A0_2 l0_2.length c0_2) := (blk_cell BK265.out 2).trans rfl
  have hcz115_3 : wr.cell? ⟨gb265, 3, none⟩ = some (.slice A0_3 l0_3.length c0_3) := (blk_cell BK265.out 3).trans rfl
  have hfz115_0 := blk_frozen BK265.out 0
  have hfz115_1 := blk_frozen BK265.out 1
  have hfz115_2 := blk_frozen BK265.out 2
  have hfz115_3 := blk_frozen BK265.out 3
  have hnb116 := NB273_266.out
  have hnc116 := NB266_273.out
  have hcz117_0 : wr.cell? ⟨gb273, 0, none⟩ = some (.int .i64 a0_0) := (blk_cell BK273.out 0).trans rfl
  have hcz117_1 : wr.cell? ⟨gb273, 1, none⟩ = some (.int .i64 a0_1) := (blk_cell BK273.out 1).trans rfl
  have hcz117_2 : wr.cell? ⟨gb273, 2, none⟩ = some (.slice Ao12 y270.length co12) := (blk_cell BK273.out 2).trans rfl
  have hcz117_3 : wr.cell? ⟨gb273, 3, none⟩ = some (u274003) := (blk_cell BK273.out 3).trans rfl
  have hfz117_0 := blk_frozen BK273.out 0
  have hfz117_1 := blk_frozen BK273.out 1
  have hfz117_2 := blk_frozen BK273.out 2
  have hfz117_3 := blk_frozen BK273.out 3
  have hcz118_0 : wr.cell? ⟨gb266, 0, none⟩ = some (.int .i64 0) := (blk_cell BK266.out 0).trans rfl
  have hcz118_1 : wr.cell? ⟨gb266, 1, none⟩ = some (.int .i64 0) := (blk_cell BK266.out 1).trans rfl
  have hcz118_2 : wr.cell? ⟨gb266, 2, none⟩ = some (.slice none 0 0) := (blk_cell BK266.out 2).trans rfl
  have hcz118_3 : wr.cell? ⟨gb266, 3, none⟩ = some (.slice none 0 0) := (blk_cell BK266.out 3).trans rfl
  have hfz118_0 := blk_frozen BK266.out 0
  have hfz118_1 := blk_frozen BK266.out 1
  have hfz118_2 := blk_frozen BK266.out 2
  have hfz118_3 := blk_frozen BK266.out 3
  obtain ⟨Ao119, co119, eo119⟩ := Kd.R_slice HO_274003.out
  subst eo119
  go_wp2
  refine bodyPost_ret (results_cell_row rfl _ _ gb266 50 #[.int .i64 a0_0, .int .i64 a0_1, .slice Ao12 y270.length co12, .slice Ao119 x274003_1.length co119] (0, 0) _ rfl (by (with_reducible repeat (first | refine blk_drewN ?_ _ | refine blk_drew ?_ | refine blk_alloc ?_ _)); refine blk_put (cs := #[.int .i64 a0_0, .int .i64 a0_1, .slice Ao12 y270.length co12, .slice none 0 0]) ?_ 3 _ rfl; (with_reducible repeat (first | refine blk_drewN ?_ _ | refine blk_drew ?_ | refine blk_alloc ?_ _)); refine blk_put (cs := #[.int .i64 a0_0, .int .i64 a0_1, .slice none 0 0, .slice none 0 0]) ?_ 2 _ rfl; (with_reducible repeat (first | refine blk_drewN ?_ _ | refine blk_drew ?_ | refine blk_alloc ?_ _)); refine blk_put (cs := #[.int .i64 a0_0, .int .i64 0, .slice none 0 0, .slice none 0 0]) ?_ 1 _ rfl; (with_reducible repeat (first | refine blk_drewN ?_ _ | refine blk_drew ?_ | refine blk_alloc ?_ _)); refine blk_put (cs := #[.int .i64 0, .int .i64 0, .slice none 0 0, .slice none 0 0]) ?_ 0 _ rfl; (with_reducible repeat (first | refine blk_drewN ?_ _ | refine blk_drew ?_ | refine blk_alloc ?_ _)); exact BK266.out) Tryd.underlying50 rfl (by kernel_rfl)) rfl ?_
  exact ⟨_, _, by first | rfl | (simp [errW_none, errW_some] <;> rfl) | (simp [*, errW_none, errW_some] <;> rfl), by (with_reducible repeat (first | apply R_alloc | apply R_drewN | apply R_drew)); exact R_mono (Kd.R_far (p := ⟨gb266, 3, none⟩) (Kd.R_far (p := ⟨gb266, 2, none⟩) (Kd.R_far (p := ⟨gb266, 1, none⟩) (Kd.R_far (p := ⟨gb266, 0, none⟩) (Kd.R_types HO_274002.out BK266.out (by decide)) (fun _ hk => hk.2) (.int .i64 a0_0)) (fun _ hk => hk.2) (.int .i64 a0_1)) (fun _ hk => hk.2) (.slice Ao12 y270.length co12)) (fun _ hk => hk.2) (.slice Ao119 x274003_1.length co119)) (fun _ hk => trivial), by (with_reducible repeat (first | apply R_alloc | apply R_drewN | apply R_drew)); exact R_mono (Kd.R_far (p := ⟨gb266, 3, none⟩) (Kd.R_far (p := ⟨gb266, 2, none⟩) (Kd.R_far (p := ⟨gb266, 1, none⟩) (Kd.R_far (p := ⟨gb266, 0, none⟩) (Kd.R_types HO_274003.out BK266.out (by decide)) (fun _ hk => hk.2) (.int .i64 a0_0)) (fun _ hk => hk.2) (.int .i64 a0_1)) (fun _ hk => hk.2) (.slice Ao12 y270.length co12)) (fun _ hk => hk.2) (.slice Ao119 x274003_1.length co119)) (fun _ hk => hk.1), by repeat (first | (with_reducible first | exact HB.out | apply below_alloc | apply pw_below_drewN | apply below_drew1 | refine below_set ?_ GE265.out | refine below_set ?_ GE266.out | refine below_set ?_ GE273.out) | exact HB.out)⟩
end Go.Proofs.YtckebppacealeaaDoor.PCodeUnlike
