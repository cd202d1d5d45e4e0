-- Laid by a program of this session (wip/pp/patch.py over the kit's print).
import Derived.Test.YtckebppacealeaaDoorPCodeUnlikex0
import Derived.Test.YtckebppacealeaaDoorPCodeUnlikex1
namespace Go.Proofs.YtckebppacealeaaDoor.PCodeUnlike
open Go.RowKit Go.Proofs.YtckebppacealeaaDoorW.PrintWords Go.Proofs.YtckebppacealeaaDoorW.PrintLast Go.Proofs.YtckebppacealeaaDoorW.PrintMore Go.Proofs.YtckebppacealeaaDoorW.PrintWords.Kd
attribute [local go_sem] max2_int min2_int max_two min_two max_three min_three max_four min_four   -- for this text's walks alone
attribute [local go_sem] eqErr29 neErr29 nilErr29
set_option linter.unusedVariables false
set_option linter.unusedSimpArgs false

/-! ### check_Ahead: function 64 -/
mutual
def check_Ahead.l0 : Nat → List (List Int) → List (S56) → Int → Int → Option ((List (List Int)))
  | 0, _, _, _, _ => none
  | k + 1, x3, x13, x14, x15 => if x15 < x14 then (if 0 ≤ x15 then (if x15 < (x13.length : Int) then (check_Ahead.l1 k x3 x15 x13 x14 x15 ((rd_T56 x13 x15).f2.f2) (((rd_T56 x13 x15).f2.f2).length : Int) 0) else (none)) else (none)) else (some x3)
def check_Ahead.l1 : Nat → List (List Int) → Int → List (S56) → Int → Int → List Int → Int → Int → Option ((List (List Int)))
  | 0, _, _, _, _, _, _, _, _ => none
  | k + 1, x3, x4, x13, x14, x15, x22, x23, x24 => if x24 < x23 then (if 0 ≤ x24 then (if x24 < (x22.length : Int) then (if (rd x22 x24) ≥ 0 then (if (rd x22 x24) < (x3.length : Int) then (if 0 ≤ (rd x22 x24) then ((slices_Contains_int_int.f k (rd_L1 x3 (rd x22 x24)) x4).bind fun t120 => (if t120 = true then (check_Ahead.l1 k x3 x4 x13 x14 x15 x22 x23 (wrap64 (x24 + 1))) else (if (rd_L1 x3 (rd x22 x24)).length < 17592186044416 then (check_Ahead.l1 k (x3.set ((rd x22 x24) : Int).toNat ((rd_L1 x3 (rd x22 x24)) ++ [x4])) x4 x13 x14 x15 x22 x23 (wrap64 (x24 + 1))) else (none)))) else (none)) else (check_Ahead.l1 k x3 x4 x13 x14 x15 x22 x23 (wrap64 (x24 + 1)))) else (check_Ahead.l1 k x3 x4 x13 x14 x15 x22 x23 (wrap64 (x24 + 1)))) else (none)) else (none)) else (check_Ahead.l0 k x3 x13 x14 (wrap64 (x15 + 1)))
end
def check_Ahead.f (k : Nat) (a0_0 : Int) (a0_1 : Int) (l0_2 : List Int) (l0_3 : List (S56)) : Option ((List (List Int))) := if 0 ≤ (l0_3.length : Int) then (if ((l0_3.length : Int) : Int).toNat ≤ 11728124029610 then (check_Ahead.l0 k (List.replicate ((l0_3.length : Int) : Int).toNat []) l0_3 (l0_3.length : Int) 0) else (none)) else (none)
theorem check_Ahead.mono_l : ∀ k, (∀ y0 y1 y2 y3, LeO (check_Ahead.l0 k y0 y1 y2 y3) (check_Ahead.l0 (k + 1) y0 y1 y2 y3)) ∧ (∀ y0 y1 y2 y3 y4 y5 y6 y7, LeO (check_Ahead.l1 k y0 y1 y2 y3 y4 y5 y6 y7) (check_Ahead.l1 (k + 1) y0 y1 y2 y3 y4 y5 y6 y7))
  | 0 => ⟨fun _ _ _ _ r h => by simp [check_Ahead.l0] at h, fun _ _ _ _ _ _ _ _ r h => by simp [check_Ahead.l1] at h⟩
  | k + 1 => by
    obtain ⟨ih0, ih1⟩ := check_Ahead.mono_l k
    refine ⟨?_, ?_⟩
    · intro y0 y1 y2 y3
      unfold check_Ahead.l0
      repeat' first
      | (with_reducible exact ih0 _ _ _ _)
      | (with_reducible exact ih1 _ _ _ _ _ _ _ _)
      | (with_reducible exact slices_Contains_int_int.mono _ _ _)
      | (with_reducible exact LeO.refl _)
      | (with_reducible exact LeO.none _)
      | (with_reducible refine LeO.ite ?_ ?_)
      | (with_reducible refine LeO.bind ?_ (fun _ => ?_))
      | exact ih0 _ _ _ _
      | exact ih1 _ _ _ _ _ _ _ _
      | exact slices_Contains_int_int.mono _ _ _
      | exact LeO.none _
      | refine LeO.ite ?_ ?_
      | refine LeO.bind ?_ (fun _ => ?_)
    · intro y0 y1 y2 y3 y4 y5 y6 y7
      unfold check_Ahead.l1
      repeat' first
      | (with_reducible exact ih0 _ _ _ _)
      | (with_reducible exact ih1 _ _ _ _ _ _ _ _)
      | (with_reducible exact slices_Contains_int_int.mono _ _ _)
      | (with_reducible exact LeO.refl _)
      | (with_reducible exact LeO.none _)
      | (with_reducible refine LeO.ite ?_ ?_)
      | (with_reducible refine LeO.bind ?_ (fun _ => ?_))
      | exact ih0 _ _ _ _
      | exact ih1 _ _ _ _ _ _ _ _
      | exact slices_Contains_int_int.mono _ _ _
      | exact LeO.none _
      | refine LeO.ite ?_ ?_
      | refine LeO.bind ?_ (fun _ => ?_)
theorem check_Ahead.mono : ∀ a0 a1 a2 a3 k, LeO (check_Ahead.f k a0 a1 a2 a3) (check_Ahead.f (k + 1) a0 a1 a2 a3) := by
  intro a0 a1 a2 a3 k
  obtain ⟨ih0, ih1⟩ := check_Ahead.mono_l k
  unfold check_Ahead.f
  repeat' first
      | (with_reducible exact ih0 _ _ _ _)
      | (with_reducible exact ih1 _ _ _ _ _ _ _ _)
      | (with_reducible exact slices_Contains_int_int.mono _ _ _)
      | (with_reducible exact LeO.refl _)
      | (with_reducible exact LeO.none _)
      | (with_reducible refine LeO.ite ?_ ?_)
      | (with_reducible refine LeO.bind ?_ (fun _ => ?_))
      | exact ih0 _ _ _ _
      | exact ih1 _ _ _ _ _ _ _ _
      | exact slices_Contains_int_int.mono _ _ _
      | exact LeO.none _
      | refine LeO.ite ?_ ?_
      | refine LeO.bind ?_ (fun _ => ?_)
set_option maxHeartbeats 8000000 in
set_option maxRecDepth 100000 in
theorem check_Ahead.calls (k : Nat) (a0_0 : Int) (a0_1 : Int) (A0_2 : Option Addr) (c0_2 : Nat) (l0_2 : List Int) (A0_3 : Option Addr) (c0_3 : Nat) (l0_3 : List (S56)) (r : List (List Int)) (w : World) (hr0_2 : Kd.C (Kd.int .i64) w A0_2 l0_2.length l0_2) (hc0_2 : l0_2.length ≤ c0_2) (hr0_3 : Kd.C k56 w A0_3 l0_3.length l0_3) (hc0_3 : l0_3.length ≤ c0_3) (h : check_Ahead.f k a0_0 a0_1 l0_2 l0_3 = some r) :
    Calls Tryd.prog 64 #[.agg #[.int .i64 a0_0, .int .i64 a0_1, .slice A0_2 l0_2.length c0_2, .slice A0_3 l0_3.length c0_3]] w fun e w' => ∃ v0_ : Value, e = .returned (v0_) ∧ Kd.S (Kd.slice 3 (Kd.int .i64)) 47 w' w.heap.size (fun _ => True) v0_ r ∧ Below w.heap.size w w' := by
  have hu50 := Tryd.underlying50
  have hu56 := Tryd.underlying56
  have HR0_2 := Aside0.mk hr0_2
  have HC0_2 := Aside0.mk hc0_2
  clear hr0_2 hc0_2
  have HR0_3 := Aside0.mk hr0_3
  have HC0_3 := Aside0.mk hc0_3
  clear hr0_3 hc0_3
  have HB := Aside0.mk (Below.refl w.heap.size w)
  have H : (if 0 ≤ (l0_3.length : Int) then (if ((l0_3.length : Int) : Int).toNat ≤ 11728124029610 then (check_Ahead.l0 k (List.replicate ((l0_3.length : Int) : Int).toNat []) l0_3 (l0_3.length : Int) 0) else (none)) else (none)) = some r := h
  clear h
  by_cases c2 : 0 ≤ (l0_3.length : Int)
  rotate_left
  · rw [if_neg c2] at H
    exact absurd H (by simp)


  rw [if_pos c2] at H
  have c2b0 := eq_true c2
  have c2b1 : decide (0 ≤ (l0_3.length : Int)) = true := decide_eq_true c2
  clear c2
  by_cases c3 : ((l0_3.length : Int) : Int).toNat ≤ 11728124029610
  rotate_left
  · rw [if_neg c3] at H
    exact absurd H (by simp)
  rw [if_pos c3] at H
  have c3b0 := eq_true c3
  have c3b1 : decide (((l0_3.length : Int) : Int).toNat ≤ 11728124029610) = true := decide_eq_true c3
  clear c3
  obtain ⟨y113, hy113⟩ : ∃ y_ : List (List Int), y_ = (List.replicate ((l0_3.length : Int) : Int).toNat []) := ⟨_, rfl⟩
  replace H : (check_Ahead.l0 k y113 l0_3 (l0_3.length : Int) 0) = some r := by first | (rw [hy113]; with_reducible exact H) | (have H2_ := (Option.bind_some _ _).symm.trans H; rw [hy113]; with_reducible exact H2_) | exact H
  have Ny113 := Aside0.mk hy113
  clear hy113
  have H' := Aside0.mk H
  clear H
  go_enter Tryd.func64, Tryd.ntmps64
  go_wp2_with (first | ((with_reducible refine gate_dst (N := 1) rfl ?_); (try (refine gate_guard (by rfl) ?_; dsimp only)); refine box_event ?hg (N := 1) ?hd (cs := #[.int .i64 a0_0, .int .i64 a0_1, .slice A0_2 l0_2.length c0_2, .slice A0_3 l0_3.length c0_3]) (t := 50) ?hr ?_; (case hd => rfl); (case hg => rfl); (case hr => first | (go_simp; done) | (go_simp; rfl)); intro gb112 hg w4 hbox hb; have n0_ := Aside0.mk (below_step (by repeat with_reducible first | exact HB.out | apply below_alloc | apply pw_below_drewN | apply below_drew1) hb); have n1_ := Aside0.mk (hbox); have n2_ := Aside0.mk ((by rw [hg]; exact (below_size (by repeat with_reducible first | exact HB.out | apply below_alloc | apply pw_below_drewN | apply below_drew1)) : w.heap.size ≤ gb112)); have n3_ := Aside0.mk ((by rw [hg]; exact (below_size (by repeat with_reducible first | exact HB.out | apply below_alloc | apply pw_below_drewN | apply below_drew1)) : w.heap.size ≤ gb112)); clear HB; have HB := n0_; have BK112 := n1_; have GW112 := n2_; have GE112 := n3_; clear n0_ n1_ n2_ n3_; clear hb hbox hg; have hcz5_0 : w4.cell? ⟨gb112, 0, none⟩ = some (.int .i64 a0_0) := (blk_cell BK112.out 0).trans rfl; have hcz5_1 : w4.cell? ⟨gb112, 1, none⟩ = some (.int .i64 a0_1) := (blk_cell BK112.out 1).trans rfl; have hcz5_2 : w4.cell? ⟨gb112, 2, none⟩ = some (.slice A0_2 l0_2.length c0_2) := (blk_cell BK112.out 2).trans rfl; have hcz5_3 : w4.cell? ⟨gb112, 3, none⟩ = some (.slice A0_3 l0_3.length c0_3) := (blk_cell BK112.out 3).trans rfl; have hfz5_0 := blk_frozen BK112.out 0; have hfz5_1 := blk_frozen BK112.out 1; have hfz5_2 := blk_frozen BK112.out 2; have hfz5_3 := blk_frozen BK112.out 3) | ((with_reducible refine gate_dst (N := 11) rfl ?_); (try (refine gate_guard (by rfl) ?_; dsimp only)); refine Kd.S_make (Kd.slice 3 (Kd.int .i64)) _ 47 rfl (N := 11) rfl 123 _ _ rfl (l0_3.length : Int) rfl rfl Tryd.underlying123 (.slice none 0 0) 24 info47 rfl (by decide) (by omega) [] (ok := fun _ => True) (okp := fun _ => True) ⟨_, rfl, Kd.R_nil _ _ _ _ _⟩ (fun _ hk => hk) trivial (of_decide_eq_true (by with_reducible assumption)) (Nat.le_trans (Nat.mul_le_mul_right _ (of_decide_eq_true (by with_reducible assumption) : (l0_3.length : Int).toNat ≤ 11728124029610)) (by omega)) (Below.refl _ _) (Nat.le_refl _) ?_; intro v114 w6 ho7 hb hg_ hnew_; clear hg_ hnew_; rw [← Ny113.out] at ho7; have n0_ := Aside0.mk (Kd.S_lower ho7 (below_size (by repeat with_reducible first | exact HB.out | apply below_alloc | apply pw_below_drewN | apply below_drew1 | refine below_set ?_ GE112.out))); have n1_ := Aside0.mk (blk_below (g := gb112) (o := .cells #[.int .i64 a0_0, .int .i64 a0_1, .slice A0_2 l0_2.length c0_2, .slice A0_3 l0_3.length c0_3] 50 (0, 0)) (by (with_reducible repeat (first | refine blk_drewN ?_ _ | refine blk_drew ?_ | refine blk_alloc ?_ _)); exact BK112.out) hb); have n2_ := Aside0.mk (below_step (by repeat with_reducible first | exact HB.out | apply below_alloc | apply pw_below_drewN | apply below_drew1 | refine below_set ?_ GE112.out) hb); clear BK112; clear HB; have HO115 := n0_; have BK112 := n1_; have HB := n2_; clear n0_ n1_ n2_; clear hb ho7; have hcz8_0 : w6.cell? ⟨gb112, 0, none⟩ = some (.int .i64 a0_0) := (blk_cell BK112.out 0).trans rfl; have hcz8_1 : w6.cell? ⟨gb112, 1, none⟩ = some (.int .i64 a0_1) := (blk_cell BK112.out 1).trans rfl; have hcz8_2 : w6.cell? ⟨gb112, 2, none⟩ = some (.slice A0_2 l0_2.length c0_2) := (blk_cell BK112.out 2).trans rfl; have hcz8_3 : w6.cell? ⟨gb112, 3, none⟩ = some (.slice A0_3 l0_3.length c0_3) := (blk_cell BK112.out 3).trans rfl; have hfz8_0 := blk_frozen BK112.out 0; have hfz8_1 := blk_frozen BK112.out 1; have hfz8_2 := blk_frozen BK112.out 2; have hfz8_3 := blk_frozen BK112.out 3))
  go_loopg [15] k (fun kq v15 w' => ∃ (x3_1 : List (List Int)) (x15_1 : Int), v15 = .int .i64 x15_1 ∧ Aside0 (check_Ahead.l0 kq x3_1 l0_3 (l0_3.length : Int) x15_1 = some r) ∧ Aside0 (kq ≤ k) ∧ Aside0 (Kd.S (Kd.slice 3 (Kd.int .i64)) 47 w' w.heap.size (fun _ => True) v114 x3_1) ∧ Aside0 (w'.heap[gb112]? = some (.cells #[.int .i64 a0_0, .int .i64 a0_1, (.slice A0_2 l0_2.length c0_2), (.slice A0_3 l0_3.length c0_3)] 50 (0, 0))) ∧ Aside0 (Below w.heap.size w w'))
  case atStart => exact ⟨(y113), (0), (by first | rfl | (simp; done) | (simp [*]; done)), H', ⟨Nat.le_refl _⟩, ⟨by (with_reducible repeat (first | apply S_alloc | apply S_drewN | apply S_drew)); exact HO115.out⟩, ⟨by (with_reducible repeat (first | refine blk_drewN ?_ _ | refine blk_drew ?_ | refine blk_alloc ?_ _)); exact BK112.out⟩, ⟨by repeat (first | (with_reducible first | exact HB.out | apply below_alloc | apply pw_below_drewN | apply below_drew1 | refine below_set ?_ GE112.out) | exact HB.out)⟩⟩
  clear H'
  try clear c2
  try clear c2b0
  try clear c2b1
  try clear p2
  try clear c3
  try clear c3b0
  try clear c3b1
  try clear c6
  try clear hcz5_0
  try clear hcz5_1
  try clear hcz5_2
  try clear hcz5_3
  try clear hcz8_0
  try clear hcz8_1
  try clear hcz8_2
  try clear hcz8_3
  try clear hfz5_0
  try clear hfz5_1
  try clear hfz5_2
  try clear hfz5_3
  try clear hfz8_0
  try clear hfz8_1
  try clear hfz8_2
  try clear hfz8_3
  obtain ⟨x3_1, x15_1, rfl, HA, HK1, HO_3, BK112, HB⟩ := hrel
  rcases gk with _ | k1
  · exact absurd HA.out (by simp [check_Ahead.l0])
  have H := HA.out
  clear HA
  simp only [check_Ahead.l0] at H
  by_cases c9 : x15_1 < (l0_3.length : Int)
  rotate_left
  · rw [if_neg c9] at H
    have c9b0 : decide (x15_1 < (l0_3.length : Int)) = false := decide_eq_false c9
    clear c9
    obtain rfl := Option.some.inj H
    go_wp2
    go_ret
    exact ⟨_, by first | rfl | (simp [errW_none, errW_some] <;> rfl) | (simp [*, errW_none, errW_some] <;> rfl), by (with_reducible repeat (first | apply S_alloc | apply S_drewN | apply S_drew)); exact HO_3.out, by repeat (first | (with_reducible first | exact HB.out | apply below_alloc | apply pw_below_drewN | apply below_drew1 | refine below_set ?_ GE112.out) | exact HB.out)⟩
  rw [if_pos c9] at H
  have c9b0 : decide (x15_1 < (l0_3.length : Int)) = true := decide_eq_true c9
  clear c9
  by_cases c10 : 0 ≤ x15_1
  rotate_left
  · rw [if_neg c10] at H
    exact absurd H (by simp)
  rw [if_pos c10] at H
  have c10b0 : decide (0 ≤ x15_1) = true := decide_eq_true c10
  clear c10
  by_cases c11 : x15_1 < (l0_3.length : Int)
  rotate_left
  · rw [if_neg c11] at H
    exact absurd H (by simp)
  rw [if_pos c11] at H
  have c11b0 : decide (x15_1 < (l0_3.length : Int)) = true := decide_eq_true c11
  clear c11
  have H' := Aside0.mk H
  clear H
  have p116 : 0 ≤ (x15_1 : Int) := of_decide_eq_true (by with_reducible assumption)
  have q116 : x15_1 < (l0_3.length : Int) := of_decide_eq_true (by with_reducible assumption)
  obtain ⟨ad116, A116_0, c116_0, A116_1, c116_1, A116_4, c116_4, e116, hx116_0, hx116_1, hx116_2, hx116_3, hx116_4, hl116_0, hi116_0, hl116_1, hi116_1, hl116_4, hi116_4⟩ := at_T56 HR0_3.out x15_1 p116 q116
  cases e116
  replace hx116_0 := (HB.out.cell (World.block_lt_of_cell? w _ hx116_0)).trans hx116_0
  replace hx116_1 := (HB.out.cell (World.block_lt_of_cell? w _ hx116_1)).trans hx116_1
  replace hx116_2 := (HB.out.cell (World.block_lt_of_cell? w _ hx116_2)).trans hx116_2
  replace hx116_3 := (HB.out.cell (World.block_lt_of_cell? w _ hx116_3)).trans hx116_3
  replace hx116_4 := (HB.out.cell (World.block_lt_of_cell? w _ hx116_4)).trans hx116_4
  have HR116_0 := Aside0.mk hi116_0
  have HC116_0 := Aside0.mk hl116_0
  clear hi116_0 hl116_0
  have HR116_1 := Aside0.mk hi116_1
  have HC116_1 := Aside0.mk hl116_1
  clear hi116_1 hl116_1
  have HR116_4 := Aside0.mk hi116_4
  have HC116_4 := Aside0.mk hl116_4
  clear hi116_4 hl116_4
  replace p116 := eq_true p116
  replace q116 := eq_true q116
  go_wp2_with (first | ((with_reducible refine gate_dst (N := 5) rfl ?_); (try (refine gate_guard (by rfl) ?_; dsimp only)); refine box_event ?hg (N := 5) ?hd (cs := #[.slice none 0 0, .slice none 0 0, .int .i64 0, .int .i64 0, .slice none 0 0]) (t := 56) ?hr ?_; (case hd => rfl); (case hg => rfl); (case hr => first | (go_simp; done) | (go_simp; rfl)); intro gb117 hg w12 hbox hb; have n0_ := Aside0.mk (Kd.S_below (by (with_reducible repeat (first | apply S_alloc | apply S_drewN | apply S_drew)); exact HO_3.out) hb); have n1_ := Aside0.mk (blk_below (g := gb112) (o := .cells #[.int .i64 a0_0, .int .i64 a0_1, .slice A0_2 l0_2.length c0_2, .slice (some ad116) l0_3.length c0_3] 50 (0, 0)) (by (with_reducible repeat (first | refine blk_drewN ?_ _ | refine blk_drew ?_ | refine blk_alloc ?_ _)); exact BK112.out) hb); have n2_ := Aside0.mk (below_step (by repeat with_reducible first | exact HB.out | apply below_alloc | apply pw_below_drewN | apply below_drew1 | refine below_set ?_ GE112.out) hb); have n3_ := Aside0.mk (hbox); have n4_ := Aside0.mk ((by rw [hg]; exact (below_size (by repeat with_reducible first | exact HB.out | apply below_alloc | apply pw_below_drewN | apply below_drew1 | refine below_set ?_ GE112.out)) : w.heap.size ≤ gb117)); have n5_ := Aside0.mk ((by rw [hg]; exact (below_size (by repeat with_reducible first | exact HB.out | apply below_alloc | apply pw_below_drewN | apply below_drew1 | refine below_set ?_ GE112.out)) : w.heap.size ≤ gb117)); have n6_ := Aside0.mk ((by rw [hg]; exact Nat.ne_of_lt (blk_lt (g := gb112) (o := .cells #[.int .i64 a0_0, .int .i64 a0_1, .slice A0_2 l0_2.length c0_2, .slice (some ad116) l0_3.length c0_3] 50 (0, 0)) (by (with_reducible repeat (first | refine blk_drewN ?_ _ | refine blk_drew ?_ | refine blk_alloc ?_ _)); exact BK112.out)) : gb112 ≠ gb117)); have n7_ := Aside0.mk ((by rw [hg]; exact Nat.ne_of_gt (blk_lt (g := gb112) (o := .cells #[.int .i64 a0_0, .int .i64 a0_1, .slice A0_2 l0_2.length c0_2, .slice (some ad116) l0_3.length c0_3] 50 (0, 0)) (by (with_reducible repeat (first | refine blk_drewN ?_ _ | refine blk_drew ?_ | refine blk_alloc ?_ _)); exact BK112.out)) : gb117 ≠ gb112)); clear HO_3; clear BK112; clear HB; have HO_3 := n0_; have BK112 := n1_; have HB := n2_; have BK117 := n3_; have GW117 := n4_; have GE117 := n5_; have NB112_117 := n6_; have NB117_112 := n7_; clear n0_ n1_ n2_ n3_ n4_ n5_ n6_ n7_; clear hb hbox hg; have hnb13 := NB117_112.out; have hnc13 := NB112_117.out; have hcz14_0 : w12.cell? ⟨gb117, 0, none⟩ = some (.slice none 0 0) := (blk_cell BK117.out 0).trans rfl; have hcz14_1 : w12.cell? ⟨gb117, 1, none⟩ = some (.slice none 0 0) := (blk_cell BK117.out 1).trans rfl; have hcz14_2 : w12.cell? ⟨gb117, 2, none⟩ = some (.int .i64 0) := (blk_cell BK117.out 2).trans rfl; have hcz14_3 : w12.cell? ⟨gb117, 3, none⟩ = some (.int .i64 0) := (blk_cell BK117.out 3).trans rfl; have hcz14_4 : w12.cell? ⟨gb117, 4, none⟩ = some (.slice none 0 0) := (blk_cell BK117.out 4).trans rfl; have hfz14_0 := blk_frozen BK117.out 0; have hfz14_1 := blk_frozen BK117.out 1; have hfz14_2 := blk_frozen BK117.out 2; have hfz14_3 := blk_frozen BK117.out 3; have hfz14_4 := blk_frozen BK117.out 4))
  go_loopg [24] k1 (fun kq v24 w' => ∃ (x3_2 : List (List Int)) (x24_2 : Int), v24 = .int .i64 x24_2 ∧ Aside0 (check_Ahead.l1 kq x3_2 x15_1 l0_3 (l0_3.length : Int) x15_1 ((rd_T56 l0_3 x15_1).f2.f2) (((rd_T56 l0_3 x15_1).f2.f2).length : Int) x24_2 = some r) ∧ Aside0 (kq ≤ k1) ∧ Aside0 (Kd.S (Kd.slice 3 (Kd.int .i64)) 47 w' w.heap.size (fun _ => True) v114 x3_2) ∧ Aside0 (w'.heap[gb112]? = some (.cells #[.int .i64 a0_0, .int .i64 a0_1, (.slice A0_2 l0_2.length c0_2), (.slice (some ad116) l0_3.length c0_3)] 50 (0, 0))) ∧ Aside0 (w'.heap[gb117]? = some (.cells #[(.slice A116_0 ((rd_T56 l0_3 x15_1).f0).length c116_0), (.slice A116_1 ((rd_T56 l0_3 x15_1).f1).length c116_1), .int .i64 ((rd_T56 l0_3 x15_1).f2.f0), .int .i64 ((rd_T56 l0_3 x15_1).f2.f1), (.slice A116_4 ((rd_T56 l0_3 x15_1).f2.f2).length c116_4)] 56 (0, 0))) ∧ Aside0 (Below w.heap.size w w'))
  case atStart => exact ⟨(x3_1), (0), (by first | rfl | (simp; done) | (simp [*]; done)), H', ⟨Nat.le_refl _⟩, ⟨by (with_reducible repeat (first | apply S_alloc | apply S_drewN | apply S_drew)); exact S_mono (Kd.S_far (p := ⟨gb117, 4, none⟩) (Kd.S_far (p := ⟨gb117, 3, none⟩) (Kd.S_far (p := ⟨gb117, 2, none⟩) (Kd.S_far (p := ⟨gb117, 1, none⟩) (Kd.S_far (p := ⟨gb117, 0, none⟩) (Kd.S_types HO_3.out BK117.out (by decide)) (fun _ hk => hk.2) (.slice A116_0 ((rd_T56 l0_3 x15_1).f0).length c116_0)) (fun _ hk => hk.2) (.slice A116_1 ((rd_T56 l0_3 x15_1).f1).length c116_1)) (fun _ hk => hk.2) (.int .i64 ((rd_T56 l0_3 x15_1).f2.f0))) (fun _ hk => hk.2) (.int .i64 ((rd_T56 l0_3 x15_1).f2.f1))) (fun _ hk => hk.2) (.slice A116_4 ((rd_T56 l0_3 x15_1).f2.f2).length c116_4)) (fun _ hk => trivial)⟩, ⟨by (with_reducible repeat (first | refine blk_drewN ?_ _ | refine blk_drew ?_ | refine blk_alloc ?_ _)); refine blk_far ?_ NB112_117.out _; (with_reducible repeat (first | refine blk_drewN ?_ _ | refine blk_drew ?_ | refine blk_alloc ?_ _)); refine blk_far ?_ NB112_117.out _; (with_reducible repeat (first | refine blk_drewN ?_ _ | refine blk_drew ?_ | refine blk_alloc ?_ _)); refine blk_far ?_ NB112_117.out _; (with_reducible repeat (first | refine blk_drewN ?_ _ | refine blk_drew ?_ | refine blk_alloc ?_ _)); refine blk_far ?_ NB112_117.out _; (with_reducible repeat (first | refine blk_drewN ?_ _ | refine blk_drew ?_ | refine blk_alloc ?_ _)); refine blk_far ?_ NB112_117.out _; (with_reducible repeat (first | refine blk_drewN ?_ _ | refine blk_drew ?_ | refine blk_alloc ?_ _)); exact BK112.out⟩, ⟨by (with_reducible repeat (first | refine blk_drewN ?_ _ | refine blk_drew ?_ | refine blk_alloc ?_ _)); refine blk_put (cs := #[.slice A116_0 ((rd_T56 l0_3 x15_1).f0).length c116_0, .slice A116_1 ((rd_T56 l0_3 x15_1).f1).length c116_1, .int .i64 ((rd_T56 l0_3 x15_1).f2.f0), .int .i64 ((rd_T56 l0_3 x15_1).f2.f1), .slice none 0 0]) ?_ 4 _ rfl; (with_reducible repeat (first | refine blk_drewN ?_ _ | refine blk_drew ?_ | refine blk_alloc ?_ _)); refine blk_put (cs := #[.slice A116_0 ((rd_T56 l0_3 x15_1).f0).length c116_0, .slice A116_1 ((rd_T56 l0_3 x15_1).f1).length c116_1, .int .i64 ((rd_T56 l0_3 x15_1).f2.f0), .int .i64 0, .slice none 0 0]) ?_ 3 _ rfl; (with_reducible repeat (first | refine blk_drewN ?_ _ | refine blk_drew ?_ | refine blk_alloc ?_ _)); refine blk_put (cs := #[.slice A116_0 ((rd_T56 l0_3 x15_1).f0).length c116_0, .slice A116_1 ((rd_T56 l0_3 x15_1).f1).length c116_1, .int .i64 0, .int .i64 0, .slice none 0 0]) ?_ 2 _ rfl; (with_reducible repeat (first | refine blk_drewN ?_ _ | refine blk_drew ?_ | refine blk_alloc ?_ _)); refine blk_put (cs := #[.slice A116_0 ((rd_T56 l0_3 x15_1).f0).length c116_0, .slice none 0 0, .int .i64 0, .int .i64 0, .slice none 0 0]) ?_ 1 _ rfl; (with_reducible repeat (first | refine blk_drewN ?_ _ | refine blk_drew ?_ | refine blk_alloc ?_ _)); refine blk_put (cs := #[.slice none 0 0, .slice none 0 0, .int .i64 0, .int .i64 0, .slice none 0 0]) ?_ 0 _ rfl; (with_reducible repeat (first | refine blk_drewN ?_ _ | refine blk_drew ?_ | refine blk_alloc ?_ _)); exact BK117.out⟩, ⟨by repeat (first | (with_reducible first | exact HB.out | apply below_alloc | apply pw_below_drewN | apply below_drew1 | refine below_set ?_ GE112.out | refine below_set ?_ GE117.out) | exact HB.out)⟩⟩
  clear H'
  try clear c1
  try clear p1
  try clear q1
  try clear hx1
  try clear c2
  try clear c2b0
  try clear c2b1
  try clear p2
  try clear c3
  try clear c3b0
  try clear c3b1
  try clear c6
  try clear c9
  try clear c9b0
  try clear c10
  try clear c10b0
  try clear c11
  try clear c11b0
  try clear p11
  try clear q11
  try clear hx11
  try clear c13
  try clear hcz14_0
  try clear hcz14_1
  try clear hcz14_2
  try clear hcz14_3
  try clear hcz14_4
  try clear hcz5_0
  try clear hcz5_1
  try clear hcz5_2
  try clear hcz5_3
  try clear hcz8_0
  try clear hcz8_1
  try clear hcz8_2
  try clear hcz8_3
  try clear hfz14_0
  try clear hfz14_1
  try clear hfz14_2
  try clear hfz14_3
  try clear hfz14_4
  try clear hfz5_0
  try clear hfz5_1
  try clear hfz5_2
  try clear hfz5_3
  try clear hfz8_0
  try clear hfz8_1
  try clear hfz8_2
  try clear hfz8_3
  try clear hx116_0
  try clear hx116_1
  try clear hx116_2
  try clear hx116_3
  try clear hx116_4
  try clear p116
  try clear p2
  try clear q116
  obtain ⟨x3_2, x24_2, rfl, HA, HK2, HO_3, BK112, BK117, HB⟩ := hrel
  rcases gk with _ | k2
  · exact absurd HA.out (by simp [check_Ahead.l1])
  have H := HA.out
  clear HA
  simp only [check_Ahead.l1] at H
  by_cases c15 : x24_2 < (((rd_T56 l0_3 x15_1).f2.f2).length : Int)
  · rw [if_pos c15] at H
    have c15b0 : decide (x24_2 < (((rd_T56 l0_3 x15_1).f2.f2).length : Int)) = true := decide_eq_true c15
    clear c15
    by_cases c16 : 0 ≤ x24_2
    rotate_left
    · rw [if_neg c16] at H
      exact absurd H (by simp)
    rw [if_pos c16] at H
    have c16b0 : decide (0 ≤ x24_2) = true := decide_eq_true c16
    clear c16
    by_cases c17 : x24_2 < (((rd_T56 l0_3 x15_1).f2.f2).length : Int)
    rotate_left
    · rw [if_neg c17] at H
      exact absurd H (by simp)
    rw [if_pos c17] at H
    have c17b0 : decide (x24_2 < (((rd_T56 l0_3 x15_1).f2.f2).length : Int)) = true := decide_eq_true c17
    clear c17
    by_cases c18 : (rd ((rd_T56 l0_3 x15_1).f2.f2) x24_2) ≥ 0
    · rw [if_pos c18] at H
      have c18b0 : decide (0 ≤ (rd ((rd_T56 l0_3 x15_1).f2.f2) x24_2)) = true := decide_eq_true c18
      clear c18
      by_cases c19 : (rd ((rd_T56 l0_3 x15_1).f2.f2) x24_2) < (x3_2.length : Int)
      · rw [if_pos c19] at H
        have c19b0 : decide ((rd ((rd_T56 l0_3 x15_1).f2.f2) x24_2) < (x3_2.length : Int)) = true := decide_eq_true c19
        clear c19
        by_cases c20 : 0 ≤ (rd ((rd_T56 l0_3 x15_1).f2.f2) x24_2)
        rotate_left
        · rw [if_neg c20] at H
          exact absurd H (by simp)
        rw [if_pos c20] at H
        have c20b0 : decide (0 ≤ (rd ((rd_T56 l0_3 x15_1).f2.f2) x24_2)) = true := decide_eq_true c20
        clear c20
        replace H := Option.bind_eq_some_iff.mp H
        obtain ⟨t120, A210, H⟩ := H
        replace H : (if t120 = true then (check_Ahead.l1 k2 x3_2 x15_1 l0_3 (l0_3.length : Int) x15_1 ((rd_T56 l0_3 x15_1).f2.f2) (((rd_T56 l0_3 x15_1).f2.f2).length : Int) (wrap64 (x24_2 + 1))) else (if (rd_L1 x3_2 (rd ((rd_T56 l0_3 x15_1).f2.f2) x24_2)).length < 17592186044416 then (check_Ahead.l1 k2 (x3_2.set ((rd ((rd_T56 l0_3 x15_1).f2.f2) x24_2) : Int).toNat ((rd_L1 x3_2 (rd ((rd_T56 l0_3 x15_1).f2.f2) x24_2)) ++ [x15_1])) x15_1 l0_3 (l0_3.length : Int) x15_1 ((rd_T56 l0_3 x15_1).f2.f2) (((rd_T56 l0_3 x15_1).f2.f2).length : Int) (wrap64 (x24_2 + 1))) else (none))) = some r := H
        have A21 := Aside0.mk A210
        clear A210
        by_cases c22 : t120 = true
        · subst c22
          have H1 : (check_Ahead.l1 k2 x3_2 x15_1 l0_3 (l0_3.length : Int) x15_1 ((rd_T56 l0_3 x15_1).f2.f2) (((rd_T56 l0_3 x15_1).f2.f2).length : Int) (wrap64 (x24_2 + 1))) = some r := by rw [if_pos rfl] at H; exact H
          clear H
          have H := H1
          clear H1
          have H' := Aside0.mk H
          clear H
          have p118 : 0 ≤ (x24_2 : Int) := of_decide_eq_true (by with_reducible assumption)
          have q118 : x24_2 < (((rd_T56 l0_3 x15_1).f2.f2).length : Int) := of_decide_eq_true (by with_reducible assumption)
          obtain ⟨ad118, e118, hx118_0⟩ := Kd.at_int HR116_4.out x24_2 p118 q118
          cases e118
          replace hx118_0 := (HB.out.cell (World.block_lt_of_cell? w _ hx118_0)).trans hx118_0
          replace p118 := eq_true p118
          replace q118 := eq_true q118
          obtain ⟨Ao23, co23, eo23⟩ := Kd.S_slice HO_3.out
          subst eo23
          have p119 : 0 ≤ ((rd ((rd_T56 l0_3 x15_1).f2.f2) x24_2) : Int) := of_decide_eq_true (by with_reducible assumption)
          have q119 : (rd ((rd_T56 l0_3 x15_1).f2.f2) x24_2) < (x3_2.length : Int) := of_decide_eq_true (by with_reducible assumption)
          obtain ⟨ad119, A119_0, c119_0, e119, hx119_0, hl119_0, hi119_0⟩ := at_L1 (S_reads' HO_3.out).2.2 (rd ((rd_T56 l0_3 x15_1).f2.f2) x24_2) p119 q119
          cases e119
          obtain ⟨ce119, hce119, hMe119, hcc119⟩ := S_get HO_3.out [] (rd ((rd_T56 l0_3 x15_1).f2.f2) x24_2) p119 (by first | exact q119 | exact of_decide_eq_true (by with_reducible assumption) | (have e_ := (S_reads' HO_3.out).1; omega))
          obtain ⟨ve119_0, rfl, ge119_0⟩ := hMe119
          have hv119_0 := hcc119 0 _ rfl
          rw [Nat.add_zero, show ((Kd.slice 3 (Kd.int .i64))).sz = 1 from rfl, Nat.mul_one] at hv119_0
          replace hv119_0 := Option.some.inj (hv119_0.symm.trans hx119_0)
          rw [hv119_0] at ge119_0
          have HL119_0 := Aside0.mk (show Kd.R (Kd.int .i64) 3 _ _ _ _ (rd_L1 x3_2 (rd ((rd_T56 l0_3 x15_1).f2.f2) x24_2)) from ge119_0)
          clear hv119_0 ge119_0
          have HX119_0 := Aside0.mk hx119_0
          clear hcc119 hce119
          have HR119_0 := Aside0.mk hi119_0
          have HC119_0 := Aside0.mk hl119_0
          clear hi119_0 hl119_0
          replace p119 := eq_true p119
          replace q119 := eq_true q119
          go_wp2_with (first | (go_at_call 76; (with_reducible refine (slices_Contains_int_int.calls k2 _ _ (rd_L1 x3_2 (rd ((rd_T56 l0_3 x15_1).f2.f2) x24_2)) x15_1 true _ ?side1 ?side2 A21.out).mono ?_); (case side1 => repeat (first | exact (by repeat with_reducible first | exact HR119_0.out | refine C_alloc ?_ _ | refine C_drewN ?_ _ | refine C_drew ?_) | (with_reducible refine C_alloc ?_ _) | (with_reducible refine C_drewN ?_ _) | (with_reducible refine C_drew ?_))); (case side2 => exact HC119_0.out); rintro e w' ⟨rfl, ⟨nd, rfl⟩⟩))
          go_roundg k2
          case measure => have := HK1.out; have := HK2.out; omega
          case rel => exact ⟨(x3_2), (wrap64 (x24_2 + 1)), (by first | rfl | (simp; done) | (simp [*]; done)), H', ⟨by have := HK1.out; have := HK2.out; omega⟩, ⟨by (with_reducible repeat (first | apply S_alloc | apply S_drewN | apply S_drew)); exact HO_3.out⟩, ⟨by (with_reducible repeat (first | refine blk_drewN ?_ _ | refine blk_drew ?_ | refine blk_alloc ?_ _)); exact BK112.out⟩, ⟨by (with_reducible repeat (first | refine blk_drewN ?_ _ | refine blk_drew ?_ | refine blk_alloc ?_ _)); exact BK117.out⟩, ⟨by repeat (first | (with_reducible first | exact HB.out | apply below_alloc | apply pw_below_drewN | apply below_drew1 | refine below_set ?_ GE112.out | refine below_set ?_ GE117.out) | exact HB.out)⟩⟩
        replace c22 := Bool.eq_false_iff.mpr c22
        subst c22
        have H1 : (if (rd_L1 x3_2 (rd ((rd_T56 l0_3 x15_1).f2.f2) x24_2)).length < 17592186044416 then (check_Ahead.l1 k2 (x3_2.set ((rd ((rd_T56 l0_3 x15_1).f2.f2) x24_2) : Int).toNat ((rd_L1 x3_2 (rd ((rd_T56 l0_3 x15_1).f2.f2) x24_2)) ++ [x15_1])) x15_1 l0_3 (l0_3.length : Int) x15_1 ((rd_T56 l0_3 x15_1).f2.f2) (((rd_T56 l0_3 x15_1).f2.f2).length : Int) (wrap64 (x24_2 + 1))) else (none)) = some r := by rw [if_neg (show ¬ (false = true) by decide)] at H; exact H
        clear H
        have H := H1
        clear H1
        by_cases c24 : (rd_L1 x3_2 (rd ((rd_T56 l0_3 x15_1).f2.f2) x24_2)).length < 17592186044416
        rotate_left
        · rw [if_neg c24] at H
          exact absurd H (by simp)
        rw [if_pos c24] at H
        have LMc24 := Aside0.mk c24
        clear c24
        obtain ⟨y122, hy122⟩ : ∃ y_ : List Int, y_ = ((rd_L1 x3_2 (rd ((rd_T56 l0_3 x15_1).f2.f2) x24_2)) ++ [x15_1]) := ⟨_, rfl⟩
        replace H : (check_Ahead.l1 k2 (x3_2.set ((rd ((rd_T56 l0_3 x15_1).f2.f2) x24_2) : Int).toNat y122) x15_1 l0_3 (l0_3.length : Int) x15_1 ((rd_T56 l0_3 x15_1).f2.f2) (((rd_T56 l0_3 x15_1).f2.f2).length : Int) (wrap64 (x24_2 + 1))) = some r := by first | (rw [hy122]; with_reducible exact H) | (have H2_ := (Option.bind_some _ _).symm.trans H; rw [hy122]; with_reducible exact H2_) | exact H
        have Ny122 := Aside0.mk hy122
        clear hy122
        obtain ⟨y125, hy125⟩ : ∃ y_ : List (List Int), y_ = (x3_2.set ((rd ((rd_T56 l0_3 x15_1).f2.f2) x24_2) : Int).toNat y122) := ⟨_, rfl⟩
        replace H : (check_Ahead.l1 k2 y125 x15_1 l0_3 (l0_3.length : Int) x15_1 ((rd_T56 l0_3 x15_1).f2.f2) (((rd_T56 l0_3 x15_1).f2.f2).length : Int) (wrap64 (x24_2 + 1))) = some r := by first | (rw [hy125]; with_reducible exact H) | (have H2_ := (Option.bind_some _ _).symm.trans H; rw [hy125]; with_reducible exact H2_) | exact H
        have Ny125 := Aside0.mk hy125
        clear hy125
        have H' := Aside0.mk H
        clear H
        have p118 : 0 ≤ (x24_2 : Int) := of_decide_eq_true (by with_reducible assumption)
        have q118 : x24_2 < (((rd_T56 l0_3 x15_1).f2.f2).length : Int) := of_decide_eq_true (by with_reducible assumption)
        obtain ⟨ad118, e118, hx118_0⟩ := Kd.at_int HR116_4.out x24_2 p118 q118
        cases e118
        replace hx118_0 := (HB.out.cell (World.block_lt_of_cell? w _ hx118_0)).trans hx118_0
        replace p118 := eq_true p118
        replace q118 := eq_true q118
        obtain ⟨Ao26, co26, eo26⟩ := Kd.S_slice HO_3.out
        subst eo26
        have p119 : 0 ≤ ((rd ((rd_T56 l0_3 x15_1).f2.f2) x24_2) : Int) := of_decide_eq_true (by with_reducible assumption)
        have q119 : (rd ((rd_T56 l0_3 x15_1).f2.f2) x24_2) < (x3_2.length : Int) := of_decide_eq_true (by with_reducible assumption)
        obtain ⟨ad119, A119_0, c119_0, e119, hx119_0, hl119_0, hi119_0⟩ := at_L1 (S_reads' HO_3.out).2.2 (rd ((rd_T56 l0_3 x15_1).f2.f2) x24_2) p119 q119
        cases e119
        obtain ⟨ce119, hce119, hMe119, hcc119⟩ := S_get HO_3.out [] (rd ((rd_T56 l0_3 x15_1).f2.f2) x24_2) p119 (by first | exact q119 | exact of_decide_eq_true (by with_reducible assumption) | (have e_ := (S_reads' HO_3.out).1; omega))
        obtain ⟨ve119_0, rfl, ge119_0⟩ := hMe119
        have hv119_0 := hcc119 0 _ rfl
        rw [Nat.add_zero, show ((Kd.slice 3 (Kd.int .i64))).sz = 1 from rfl, Nat.mul_one] at hv119_0
        replace hv119_0 := Option.some.inj (hv119_0.symm.trans hx119_0)
        rw [hv119_0] at ge119_0
        have HL119_0 := Aside0.mk (show Kd.R (Kd.int .i64) 3 _ _ _ _ (rd_L1 x3_2 (rd ((rd_T56 l0_3 x15_1).f2.f2) x24_2)) from ge119_0)
        clear hv119_0 ge119_0
        have HX119_0 := Aside0.mk hx119_0
        clear hcc119 hce119
        have HR119_0 := Aside0.mk hi119_0
        have HC119_0 := Aside0.mk hl119_0
        clear hi119_0 hl119_0
        replace p119 := eq_true p119
        replace q119 := eq_true q119
        go_wp2_with (first | (go_at_call 76; (with_reducible refine (slices_Contains_int_int.calls k2 _ _ (rd_L1 x3_2 (rd ((rd_T56 l0_3 x15_1).f2.f2) x24_2)) x15_1 false _ ?side1 ?side2 A21.out).mono ?_); (case side1 => repeat (first | exact (by repeat with_reducible first | exact HR119_0.out | refine C_alloc ?_ _ | refine C_drewN ?_ _ | refine C_drew ?_) | (with_reducible refine C_alloc ?_ _) | (with_reducible refine C_drewN ?_ _) | (with_reducible refine C_drew ?_))); (case side2 => exact HC119_0.out); rintro e w' ⟨rfl, ⟨nd, rfl⟩⟩; (try (rw [drewN_self wr]; generalize hq_ : World.drewN wr _ = wr; have hx119_0 : wr.cell? (ad119.add (rd ((rd_T56 l0_3 x15_1).f2.f2) x24_2).toNat) = some (.slice A119_0 (rd_L1 x3_2 (rd ((rd_T56 l0_3 x15_1).f2.f2) x24_2)).length c119_0) := (by rw [← hq_]; simpa using hx119_0); have n0_ : Aside0 (Kd.R (Kd.int .i64) 3 wr w.heap.size (fun k_ => some k_ ≠ (.slice (some ad119) x3_2.length co26 : Value).ownBlock) (.slice A119_0 (rd_L1 x3_2 (rd ((rd_T56 l0_3 x15_1).f2.f2) x24_2)).length c119_0) (rd_L1 x3_2 (rd ((rd_T56 l0_3 x15_1).f2.f2) x24_2))) := ⟨by rw [← hq_]; exact (by (with_reducible repeat (first | apply R_alloc | apply R_drewN | apply R_drew)); exact R_mono HL119_0.out (fun _ hk => hk.2))⟩; have n1_ : Aside0 (Kd.S (Kd.slice 3 (Kd.int .i64)) 47 wr w.heap.size (fun _ => True) (.slice (some ad119) x3_2.length co26) x3_2) := ⟨by rw [← hq_]; exact (by (with_reducible repeat (first | apply S_alloc | apply S_drewN | apply S_drew)); exact HO_3.out)⟩; have n2_ : Aside0 (wr.heap[gb112]? = some (.cells #[.int .i64 a0_0, .int .i64 a0_1, .slice A0_2 l0_2.length c0_2, .slice (some ad116) l0_3.length c0_3] 50 (0, 0))) := ⟨by rw [← hq_]; exact (by (with_reducible repeat (first | refine blk_drewN ?_ _ | refine blk_drew ?_ | refine blk_alloc ?_ _)); exact BK112.out)⟩; have n3_ : Aside0 (wr.heap[gb117]? = some (.cells #[.slice A116_0 ((rd_T56 l0_3 x15_1).f0).length c116_0, .slice A116_1 ((rd_T56 l0_3 x15_1).f1).length c116_1, .int .i64 ((rd_T56 l0_3 x15_1).f2.f0), .int .i64 ((rd_T56 l0_3 x15_1).f2.f1), .slice (some ad118) ((rd_T56 l0_3 x15_1).f2.f2).length c116_4] 56 (0, 0))) := ⟨by rw [← hq_]; exact (by (with_reducible repeat (first | refine blk_drewN ?_ _ | refine blk_drew ?_ | refine blk_alloc ?_ _)); exact BK117.out)⟩; have n4_ : Aside0 (Below w.heap.size w wr) := ⟨by rw [← hq_]; exact (by repeat with_reducible first | exact HB.out | apply below_alloc | apply pw_below_drewN | apply below_drew1 | refine below_set ?_ GE112.out | refine below_set ?_ GE117.out)⟩; have n5_ : Aside0 (Kd.C (Kd.int .i64) wr A119_0 (rd_L1 x3_2 (rd ((rd_T56 l0_3 x15_1).f2.f2) x24_2)).length (rd_L1 x3_2 (rd ((rd_T56 l0_3 x15_1).f2.f2) x24_2))) := ⟨by rw [← hq_]; exact (by repeat with_reducible first | exact HR119_0.out | refine C_alloc ?_ _ | refine C_drewN ?_ _ | refine C_drew ?_)⟩; clear HL119_0 HO_3 BK112 BK117 HB HR119_0 hq_; have HL119_0 := n0_; have HO_3 := n1_; have BK112 := n2_; have BK117 := n3_; have HB := n4_; have HR119_0 := n5_; clear n0_ n1_ n2_ n3_ n4_ n5_)); have p121 : 0 ≤ ((rd ((rd_T56 l0_3 x15_1).f2.f2) x24_2) : Int) := of_decide_eq_true (by with_reducible assumption); have q121 : (rd ((rd_T56 l0_3 x15_1).f2.f2) x24_2) < (x3_2.length : Int) := of_decide_eq_true (by with_reducible assumption); obtain ⟨ad121, A121_0, c121_0, e121, hx121_0, hl121_0, hi121_0⟩ := at_L1 (S_reads' HO_3.out).2.2 (rd ((rd_T56 l0_3 x15_1).f2.f2) x24_2) p121 q121; obtain rfl : ad119 = ad121 := (by injection e121); obtain ⟨ce121, hce121, hMe121, hcc121⟩ := S_get HO_3.out [] (rd ((rd_T56 l0_3 x15_1).f2.f2) x24_2) p121 (by first | exact q121 | exact of_decide_eq_true (by with_reducible assumption) | (have e_ := (S_reads' HO_3.out).1; omega)); obtain ⟨ve121_0, rfl, ge121_0⟩ := hMe121; have hv121_0 := hcc121 0 _ rfl; rw [Nat.add_zero, show ((Kd.slice 3 (Kd.int .i64))).sz = 1 from rfl, Nat.mul_one] at hv121_0; replace hv121_0 := Option.some.inj (hv121_0.symm.trans hx121_0); rw [hv121_0] at ge121_0; have HL121_0 := Aside0.mk (show Kd.R (Kd.int .i64) 3 _ _ _ _ (rd_L1 x3_2 (rd ((rd_T56 l0_3 x15_1).f2.f2) x24_2)) from ge121_0); clear hv121_0 ge121_0; have HX121_0 := Aside0.mk hx121_0; clear hcc121 hce121; have HR121_0 := Aside0.mk hi121_0; have HC121_0 := Aside0.mk hl121_0; clear hi121_0 hl121_0; replace p121 := eq_true p121; replace q121 := eq_true q121; have ea_ := Option.some.inj (hx119_0.symm.trans hx121_0); injection ea_ with ea_ en_ ec_; subst ea_; subst ec_; clear en_; obtain ⟨go27, co27, eo27, gb27, gl27, cl27, HG27⟩ := Kd.S_form HO_3.out (by have h_ : ((rd ((rd_T56 l0_3 x15_1).f2.f2) x24_2) : Int) < ((x3_2.length : Int) : Int) := of_decide_eq_true (by with_reducible assumption); have h2_ : 0 ≤ ((rd ((rd_T56 l0_3 x15_1).f2.f2) x24_2) : Int) := (of_decide_eq_true (by with_reducible assumption)); omega); (first | cases eo27 | (injection eo27 with ea_ en_ ec_; (first | subst ea_ | (injection ea_ with ea_; subst ea_)); subst ec_; clear en_)); have GB27 := Aside0.mk gb27; have GG27 := Aside0.mk HG27; clear gb27 gl27 HG27; (first | simp only [add_plain] at hx119_0 | skip); (first | simp only [add_plain] at hx121_0 | skip); obtain ⟨oki27, ce27, hcl27, hM27, hcc27, _, _, hH27⟩ := Kd.S_elem HO_3.out [] ((rd ((rd_T56 l0_3 x15_1).f2.f2) x24_2) : Int) (of_decide_eq_true (by with_reducible assumption)) (by have h_ : ((rd ((rd_T56 l0_3 x15_1).f2.f2) x24_2) : Int) < ((x3_2.length : Int) : Int) := of_decide_eq_true (by with_reducible assumption); first | exact h_ | (have e_ := (S_reads' HO_3.out).1; omega) | simpa using h_); obtain ⟨ve27_0, rfl, ge27_0⟩ := hM27; have hv27 := hcc27 0 _ rfl; have hX27 := HX121_0.out; (try simp only [add_plain] at hX27); (try simp only [Nat.add_zero] at hv27); (try rw [show ((Kd.slice 3 (Kd.int .i64))).sz = 1 from rfl, Nat.mul_one] at hv27); replace hv27 := Option.some.inj (hv27.symm.trans hX27); subst hv27; clear hX27 hcc27 hcl27; have UU27 := Aside0.mk (show Kd.R (Kd.int .i64) 3 _ w.heap.size oki27 (.slice A119_0 (rd_L1 x3_2 (rd ((rd_T56 l0_3 x15_1).f2.f2) x24_2)).length c119_0) (rd_L1 x3_2 (rd ((rd_T56 l0_3 x15_1).f2.f2) x24_2)) from ge27_0); have HH27 := Aside0.mk hH27; have HN27 := Aside0.mk (S_reads' HO_3.out).1; clear hH27 ge27_0) | ((with_reducible refine gate_builtin (b := .append) (xs := #[.tmp 50, .tmp 52]) rfl ?_); (try (refine gate_guard (by rfl) ?_; dsimp only)); at_builtin; refine Kd.R_append (Kd.int .i64) (w0 := w) w.heap.size rfl (.tmp 50) (.tmp 52) 47 3 (.int .i64 0) 8 rfl Tryd.underlying47 info3 rfl (by decide) (by omega) (.slice A119_0 (rd_L1 x3_2 (rd ((rd_T56 l0_3 x15_1).f2.f2) x24_2)).length c119_0) (rd_L1 x3_2 (rd ((rd_T56 l0_3 x15_1).f2.f2) x24_2)) x15_1 [.int .i64 x15_1] (fun k_ => oki27 k_ ∨ ((fun _ => True)) k_ ∧ wr.heap.size ≤ k_) (fun _ => False) rfl rfl ?aP (fun _ hk => hk.elim) ?aF ?aO ?aB ?aS ?aL ?_; (case aP => exact rfl); (case aB => exact (by repeat with_reducible first | exact HB.out | apply below_alloc | apply pw_below_drewN | apply below_drew1 | refine below_set ?_ GE112.out | refine below_set ?_ GE117.out)); (case aF => exact (fun k_ hk => .inr ⟨trivial, hk⟩)); (case aO => exact (by (with_reducible repeat (first | apply R_alloc | apply R_drewN | apply R_drew)); exact R_mono UU27.out (fun _ hk => .inl hk))); (case aS => exact (below_size (by repeat with_reducible first | exact HB.out | apply below_alloc | apply pw_below_drewN | apply below_drew1 | refine below_set ?_ GE112.out | refine below_set ?_ GE117.out))); (case aL => have := LMc24.out; omega); intro v123 w28 ho hb hg hat; rw [← Ny122.out] at ho; have n0_ := Aside0.mk (blk_grown (g := gb112) (o := .cells #[.int .i64 a0_0, .int .i64 a0_1, .slice A0_2 l0_2.length c0_2, .slice (some ad116) l0_3.length c0_3] 50 (0, 0)) (by (with_reducible repeat (first | refine blk_drewN ?_ _ | refine blk_drew ?_ | refine blk_alloc ?_ _)); exact BK112.out) hg (Kd.R_ne HL121_0.out BK112.out (by decide))); have n1_ := Aside0.mk (blk_grown (g := gb117) (o := .cells #[.slice A116_0 ((rd_T56 l0_3 x15_1).f0).length c116_0, .slice A116_1 ((rd_T56 l0_3 x15_1).f1).length c116_1, .int .i64 ((rd_T56 l0_3 x15_1).f2.f0), .int .i64 ((rd_T56 l0_3 x15_1).f2.f1), .slice (some ad118) ((rd_T56 l0_3 x15_1).f2.f2).length c116_4] 56 (0, 0)) (by (with_reducible repeat (first | refine blk_drewN ?_ _ | refine blk_drew ?_ | refine blk_alloc ?_ _)); exact BK117.out) hg (Kd.R_ne HL121_0.out BK117.out (by decide))); have n2_ := Aside0.mk (hb); have n3_ := Aside0.mk (Kd.H_grown (Kd.H_widen (by repeat (first | exact HH27.out | refine Kd.H_alloc ?_ _ | refine Kd.H_drewN ?_ _ | refine Kd.H_drew ?_))) hg (fun k_ e_ => .inl (UU27.out.1 k_ e_))); have n4_ := Aside0.mk (ho); clear BK112; clear BK117; clear HB; clear HH27; clear HO_3; clear UU27; clear HL119_0; clear HL121_0; have BK112 := n0_; have BK117 := n1_; have HB := n2_; have HH27 := n3_; have HO124 := n4_; clear n0_ n1_ n2_ n3_ n4_; clear ho hb hg hat; have p25 : 0 ≤ ((rd ((rd_T56 l0_3 x15_1).f2.f2) x24_2) : Int) := of_decide_eq_true (by with_reducible assumption); have q25 : ((rd ((rd_T56 l0_3 x15_1).f2.f2) x24_2) : Int) < ((x3_2.length : Int) : Int) := of_decide_eq_true (by with_reducible assumption); replace p25 := eq_true p25; replace q25 := eq_true q25; obtain ⟨Ao31, co31, eo31⟩ := Kd.R_slice HO124.out; subst eo31; obtain ⟨_, _, hraw29, _, _, hcc29, _⟩ := Kd.H_raw HH27.out (of_decide_eq_true (by with_reducible assumption)) (by have h_ : ((rd ((rd_T56 l0_3 x15_1).f2.f2) x24_2) : Int) < ((x3_2.length : Int) : Int) := of_decide_eq_true (by with_reducible assumption); first | exact h_ | (have e_ := (HN27.out); omega) | simpa using h_); obtain ⟨_, hfr29⟩ := Kd.H_at HH27.out (of_decide_eq_true (by with_reducible assumption)) (by have h_ : ((rd ((rd_T56 l0_3 x15_1).f2.f2) x24_2) : Int) < ((x3_2.length : Int) : Int) := of_decide_eq_true (by with_reducible assumption); first | exact h_ | (have e_ := (HN27.out); omega) | simpa using h_); have hx29_0 := hcc29 0 _ rfl; have hf29_0 := hfr29 0; (try simp only [Nat.add_zero] at hx29_0 hf29_0); (try rw [show ((Kd.slice 3 (Kd.int .i64))).sz = 1 from rfl, Nat.mul_one] at hx29_0); (try rw [show ((Kd.slice 3 (Kd.int .i64))).sz = 1 from rfl, Nat.mul_one] at hf29_0); have HP29 := Kd.S_seg0 HH27.out (of_decide_eq_true (by with_reducible assumption)) (by have h_ : ((rd ((rd_T56 l0_3 x15_1).f2.f2) x24_2) : Int) < ((x3_2.length : Int) : Int) := of_decide_eq_true (by with_reducible assumption); first | exact h_ | (have e_ := (HN27.out); omega) | simpa using h_) (seg := [.slice Ao31 y122.length co31]) (j := 0) (show 1 ≤ 1 from by decide) (x' := y122) (Kd.M_row HO124.out) (fun _ hk => hk); (try simp only [show ((Kd.slice 3 (Kd.int .i64))).sz = 1 from rfl, Nat.mul_one, Nat.add_zero] at HP29); clear hcc29 hfr29) | ((with_reducible refine gate_store (t := 47) (p := 54) rfl ?_); refine store_event (t := 47) (p := 54) (v := ?vo_w30) (w1 := (w28.setCell ⟨go27, ((rd ((rd_T56 l0_3 x15_1).f2.f2) x24_2) : Int).toNat, none⟩ (.slice Ao31 y122.length co31))) ?hg ?ho ?hn ?hr ?_; (case ho => rfl); (case hg => rfl); (case hn => rfl); (case hr => first | (go_simp; done) | (go_simp; rfl)); intro w30 hw; have hg : w28.grownBy w30 (some go27) := (by rw [hw]; exact HP29.2); have hp_ : Kd.S (Kd.slice 3 (Kd.int .i64)) 47 w30 w.heap.size (fun _ => True) (.slice (some ⟨go27, 0, none⟩) x3_2.length co26) y125 := (by rw [hw, Ny125.out]; exact HP29.1); clear HP29; have n0_ := Aside0.mk (blk_grown (g := gb112) (o := .cells #[.int .i64 a0_0, .int .i64 a0_1, .slice A0_2 l0_2.length c0_2, .slice (some ad116) l0_3.length c0_3] 50 (0, 0)) (by (with_reducible repeat (first | refine blk_drewN ?_ _ | refine blk_drew ?_ | refine blk_alloc ?_ _)); exact BK112.out) hg (Kd.R_ne hraw29 BK112.out (by decide))); have n1_ := Aside0.mk (blk_grown (g := gb117) (o := .cells #[.slice A116_0 ((rd_T56 l0_3 x15_1).f0).length c116_0, .slice A116_1 ((rd_T56 l0_3 x15_1).f1).length c116_1, .int .i64 ((rd_T56 l0_3 x15_1).f2.f0), .int .i64 ((rd_T56 l0_3 x15_1).f2.f1), .slice (some ad118) ((rd_T56 l0_3 x15_1).f2.f2).length c116_4] 56 (0, 0)) (by (with_reducible repeat (first | refine blk_drewN ?_ _ | refine blk_drew ?_ | refine blk_alloc ?_ _)); exact BK117.out) hg (Kd.R_ne hraw29 BK117.out (by decide))); have n2_ := Aside0.mk ((by rw [hw]; exact below_set HB.out GB27.out : Below w.heap.size w w30)); have n3_ := Aside0.mk (hp_); clear BK112; clear BK117; clear HB; clear HO124; clear HH27; have BK112 := n0_; have BK117 := n1_; have HB := n2_; have HO_3 := n3_; clear n0_ n1_ n2_ n3_; clear hg hw hp_ hraw29))
        go_roundg k2
        case measure => have := HK1.out; have := HK2.out; omega
        case rel => exact ⟨(y125), (wrap64 (x24_2 + 1)), (by first | rfl | (simp; done) | (simp [*]; done)), H', ⟨by have := HK1.out; have := HK2.out; omega⟩, ⟨by (with_reducible repeat (first | apply S_alloc | apply S_drewN | apply S_drew)); exact HO_3.out⟩, ⟨by (with_reducible repeat (first | refine blk_drewN ?_ _ | refine blk_drew ?_ | refine blk_alloc ?_ _)); exact BK112.out⟩, ⟨by (with_reducible repeat (first | refine blk_drewN ?_ _ | refine blk_drew ?_ | refine blk_alloc ?_ _)); exact BK117.out⟩, ⟨by repeat (first | (with_reducible first | exact HB.out | apply below_alloc | apply pw_below_drewN | apply below_drew1 | refine below_set ?_ GE112.out | refine below_set ?_ GE117.out) | exact HB.out)⟩⟩
      rw [if_neg c19] at H
      have c19b0 : decide ((rd ((rd_T56 l0_3 x15_1).f2.f2) x24_2) < (x3_2.length : Int)) = false := decide_eq_false c19
      clear c19
      have H' := Aside0.mk H
      clear H
      have p118 : 0 ≤ (x24_2 : Int) := of_decide_eq_true (by with_reducible assumption)
      have q118 : x24_2 < (((rd_T56 l0_3 x15_1).f2.f2).length : Int) := of_decide_eq_true (by with_reducible assumption)
      obtain ⟨ad118, e118, hx118_0⟩ := Kd.at_int HR116_4.out x24_2 p118 q118
      cases e118
      replace hx118_0 := (HB.out.cell (World.block_lt_of_cell? w _ hx118_0)).trans hx118_0
      replace p118 := eq_true p118
      replace q118 := eq_true q118
      obtain ⟨Ao32, co32, eo32⟩ := Kd.S_slice HO_3.out
      subst eo32
      go_wp2
      go_roundg k2
      case measure => have := HK1.out; have := HK2.out; omega
      case rel => exact ⟨(x3_2), (wrap64 (x24_2 + 1)), (by first | rfl | (simp; done) | (simp [*]; done)), H', ⟨by have := HK1.out; have := HK2.out; omega⟩, ⟨by (with_reducible repeat (first | apply S_alloc | apply S_drewN | apply S_drew)); exact HO_3.out⟩, ⟨by (with_reducible repeat (first | refine blk_drewN ?_ _ | refine blk_drew ?_ | refine blk_alloc ?_ _)); exact BK112.out⟩, ⟨by (with_reducible repeat (first | refine blk_drewN ?_ _ | refine blk_drew ?_ | refine blk_alloc ?_ _)); exact BK117.out⟩, ⟨by repeat (first | (with_reducible first | exact HB.out | apply below_alloc | apply pw_below_drewN | apply below_drew1 | refine below_set ?_ GE112.out | refine below_set ?_ GE117.out) | exact HB.out)⟩⟩
    rw [if_neg c18] at H
    have c18b0 : decide (0 ≤ (rd ((rd_T56 l0_3 x15_1).f2.f2) x24_2)) = false := decide_eq_false c18
    clear c18
    have H' := Aside0.mk H
    clear H
    have p118 : 0 ≤ (x24_2 : Int) := of_decide_eq_true (by with_reducible assumption)
    have q118 : x24_2 < (((rd_T56 l0_3 x15_1).f2.f2).length : Int) := of_decide_eq_true (by with_reducible assumption)
    obtain ⟨ad118, e118, hx118_0⟩ := Kd.at_int HR116_4.out x24_2 p118 q118
    cases e118
    replace hx118_0 := (HB.out.cell (World.block_lt_of_cell? w _ hx118_0)).trans hx118_0
    replace p118 := eq_true p118
    replace q118 := eq_true q118
    go_wp2
    go_roundg k2
    case measure => have := HK1.out; have := HK2.out; omega
    case rel => exact ⟨(x3_2), (wrap64 (x24_2 + 1)), (by first | rfl | (simp; done) | (simp [*]; done)), H', ⟨by have := HK1.out; have := HK2.out; omega⟩, ⟨by (with_reducible repeat (first | apply S_alloc | apply S_drewN | apply S_drew)); exact HO_3.out⟩, ⟨by (with_reducible repeat (first | refine blk_drewN ?_ _ | refine blk_drew ?_ | refine blk_alloc ?_ _)); exact BK112.out⟩, ⟨by (with_reducible repeat (first | refine blk_drewN ?_ _ | refine blk_drew ?_ | refine blk_alloc ?_ _)); exact BK117.out⟩, ⟨by repeat (first | (with_reducible first | exact HB.out | apply below_alloc | apply pw_below_drewN | apply below_drew1 | refine below_set ?_ GE112.out | refine below_set ?_ GE117.out) | exact HB.out)⟩⟩
  rw [if_neg c15] at H
  have c15b0 : decide (x24_2 < (((rd_T56 l0_3 x15_1).f2.f2).length : Int)) = false := decide_eq_false c15
  clear c15
  have H' := Aside0.mk H
  clear H
  go_wp2
  go_roundg k2
  case measure => have := HK1.out; have := HK2.out; omega
  case rel => exact ⟨(x3_2), (wrap64 (x15_1 + 1)), (by first | rfl | (simp; done) | (simp [*]; done)), H', ⟨by have := HK1.out; have := HK2.out; omega⟩, ⟨by (with_reducible repeat (first | apply S_alloc | apply S_drewN | apply S_drew)); exact HO_3.out⟩, ⟨by (with_reducible repeat (first | refine blk_drewN ?_ _ | refine blk_drew ?_ | refine blk_alloc ?_ _)); exact BK112.out⟩, ⟨by repeat (first | (with_reducible first | exact HB.out | apply below_alloc | apply pw_below_drewN | apply below_drew1 | refine below_set ?_ GE112.out | refine below_set ?_ GE117.out) | exact HB.out)⟩⟩-- NOT PRINTED: function 83 (check_looker_has)

-- NOT PRINTED: function 84 (check_looker_are)

-- NOT PRINTED: function 77 (check_looker_phi)

/-! ### arith_Args: function 89 -/
def arith_Args.j0 : Nat → Int → Bool → Option (Int × Bool)
  | 0, _, _ => none
  | k + 1, x0, x4 => if x4 = true then (some (1, true)) else (if x0 ≥ 3 then (if x0 ≤ 13 then (some (2, true)) else (some (0, false))) else (some (0, false)))
def arith_Args.f (k : Nat) (a0 : Int) : Option (Int × Bool) := if a0 = 2 then (arith_Args.j0 k a0 true) else (arith_Args.j0 k a0 (a0 == 14))
theorem arith_Args.mono_l : ∀ k, (∀ y0 y1, LeO (arith_Args.j0 k y0 y1) (arith_Args.j0 (k + 1) y0 y1))
  | 0 => fun _ _ r h => by simp [arith_Args.j0] at h
  | k + 1 => by
    have ih0 := arith_Args.mono_l k
    · intro y0 y1
      unfold arith_Args.j0
      repeat' first
      | (with_reducible exact ih0 _ _)
      | (with_reducible exact LeO.refl _)
      | (with_reducible exact LeO.none _)
      | (with_reducible refine LeO.ite ?_ ?_)
      | (with_reducible refine LeO.bind ?_ (fun _ => ?_))
      | exact ih0 _ _
      | exact LeO.none _
      | refine LeO.ite ?_ ?_
      | refine LeO.bind ?_ (fun _ => ?_)
theorem arith_Args.mono : ∀ a0 k, LeO (arith_Args.f k a0) (arith_Args.f (k + 1) a0) := by
  intro a0 k
  have ih0 := arith_Args.mono_l k
  unfold arith_Args.f
  repeat' first
      | (with_reducible exact ih0 _ _)
      | (with_reducible exact LeO.refl _)
      | (with_reducible exact LeO.none _)
      | (with_reducible refine LeO.ite ?_ ?_)
      | (with_reducible refine LeO.bind ?_ (fun _ => ?_))
      | exact ih0 _ _
      | exact LeO.none _
      | refine LeO.ite ?_ ?_
      | refine LeO.bind ?_ (fun _ => ?_)
set_option maxHeartbeats 8000000 in
set_option maxRecDepth 100000 in
theorem arith_Args.calls (k : Nat) (a0 : Int) (r1 : Int) (r2 : Bool) (w : World) (h : arith_Args.f k a0 = some (r1, r2)) :
    Calls Tryd.prog 89 #[.int .i64 a0] w fun e w' => e = .returned (.tuple #[.int .i64 r1, .bool r2]) ∧ Drawn0 w w' := by
  have H : (if a0 = 2 then (arith_Args.j0 k a0 true) else (arith_Args.j0 k a0 (a0 == 14))) = some (r1, r2) := h
  clear h
  have HC2 := Aside0.mk H
  clear H
  go_enter Tryd.func89, Tryd.ntmps89
  go_upto_region 1 with (fail)
  go_cut [4] (fun v4 wc => ∃ (kq : Nat) (x4_1 : Bool), v4 = .bool x4_1 ∧ Aside0 (arith_Args.j0 kq a0 x4_1 = some (r1, r2)) ∧ Aside0 (kq ≤ k) ∧ Drawn0 w wc)
  case first =>
    have H := HC2.out
    clear HC2
    by_cases c3 : a0 = 2
    · rw [if_pos c3] at H
      have c3b0 : (a0 == 2) = true := beq_iff_eq.mpr c3
      have c3b1 : (a0 != 2) = false := bne_eq_false_iff_eq.mpr c3
      clear c3
      (first | rw [c3b0] | (simp only [i64_w, i32_w]; rw [c3b0]) | skip)
      have H' := Aside0.mk H
      clear H
      go_wp2
      go_meet
      case rel => exact ⟨_, (true), (by first | rfl | (simp; done) | (simp [*]; done)), H', ⟨by first | omega | exact Nat.le_refl _⟩, by repeat (first | exact Drawn0.refl _ | apply Drawn0.step)⟩
    rw [if_neg c3] at H
    have c3b0 : (a0 == 2) = false := beq_eq_false_iff_ne.mpr c3
    have c3b1 : (a0 != 2) = true := bne_iff_ne.mpr c3
    (first | rw [c3b0] | (simp only [i64_w, i32_w]; rw [c3b0]) | skip)
    have H' := Aside0.mk H
    clear H
    go_wp2
    go_meet
    case rel => exact ⟨_, ((a0 == 14)), (by first | rfl | (simp; done) | (simp [*]; done)), H', ⟨by first | omega | exact Nat.le_refl _⟩, by repeat (first | exact Drawn0.refl _ | apply Drawn0.step)⟩
  clear HC2
  try clear p2
  try clear c3
  try clear c3b0
  try clear c3b1
  obtain ⟨kq, x4_1, rfl, HA, HJ1, ⟨mc1, rfl⟩⟩ := hcut
  rcases kq with _ | kj1
  · exact absurd HA.out (by simp [arith_Args.j0])
  have H := HA.out
  clear HA
  simp only [arith_Args.j0] at H
  by_cases c4 : x4_1 = true
  · subst c4
    have H1 : (some (1, true)) = some (r1, r2) := by rw [if_pos rfl] at H; exact H
    clear H
    have H := H1
    clear H1
    simp only [Option.some.injEq, Prod.mk.injEq] at H
    obtain ⟨rfl, rfl⟩ := H
    go_wp2
    go_ret2
    exact ⟨by first | rfl | (simp; done) | (simp [*]; done), by repeat (first | exact Drawn0.refl _ | apply Drawn0.step)⟩
  replace c4 := Bool.eq_false_iff.mpr c4
  subst c4
  have H1 : (if a0 ≥ 3 then (if a0 ≤ 13 then (some (2, true)) else (some (0, false))) else (some (0, false))) = some (r1, r2) := by rw [if_neg (show ¬ (false = true) by decide)] at H; exact H
  clear H
  have H := H1
  clear H1
  by_cases c5 : a0 ≥ 3
  · rw [if_pos c5] at H
    have c5b0 : decide (3 ≤ a0) = true := decide_eq_true c5
    clear c5
    by_cases c6 : a0 ≤ 13
    · rw [if_pos c6] at H
      have c6b0 : decide (a0 ≤ 13) = true := decide_eq_true c6
      clear c6
      simp only [Option.some.injEq, Prod.mk.injEq] at H
      obtain ⟨rfl, rfl⟩ := H
      go_wp2
      go_ret2
      exact ⟨by first | rfl | (simp; done) | (simp [*]; done), by repeat (first | exact Drawn0.refl _ | apply Drawn0.step)⟩
    rw [if_neg c6] at H
    have c6b0 : decide (a0 ≤ 13) = false := decide_eq_false c6
    clear c6
    simp only [Option.some.injEq, Prod.mk.injEq] at H
    obtain ⟨rfl, rfl⟩ := H
    go_wp2
    go_ret2
    exact ⟨by first | rfl | (simp; done) | (simp [*]; done), by repeat (first | exact Drawn0.refl _ | apply Drawn0.step)⟩
  rw [if_neg c5] at H
  have c5b0 : decide (3 ≤ a0) = false := decide_eq_false c5
  clear c5
  simp only [Option.some.injEq, Prod.mk.injEq] at H
  obtain ⟨rfl, rfl⟩ := H
  go_wp2
  go_ret2
  exact ⟨by first | rfl | (simp; done) | (simp [*]; done), by repeat (first | exact Drawn0.refl _ | apply Drawn0.step)⟩

-- NOT PRINTED: function 85 (check_looker_arity)

-- NOT PRINTED: function 90 (check_looker_call)

-- NOT PRINTED: function 86 (check_looker_fits)

-- NOT PRINTED: function 78 (check_looker_instr)

-- NOT PRINTED: function 79 (check_looker_end)

-- NOT PRINTED: function 65 (check_looker_block)

-- NOT PRINTED: function 41 (check_Func)

-- NOT PRINTED: function 20 (check_Module)

/-! ### code_number: function 21 -/
def code_number.l0 : Nat → List Int → Int → Option (List Int)
  | 0, _, _ => none
  | k + 1, x0, x1 => if x1 ≥ 128 then (if x0.length < 140737488355328 then (code_number.l0 k (x0 ++ [Go.bits .or .u8 ((x1) % 256) 128]) (x1 / 128)) else (none)) else (if x0.length < 140737488355328 then (some (x0 ++ [(x1) % 256])) else (none))
def code_number.f (k : Nat) (l0 : List Int) (a1 : Int) : Option (List Int) := code_number.l0 k l0 a1
theorem code_number.mono_l : ∀ k, (∀ y0 y1, LeO (code_number.l0 k y0 y1) (code_number.l0 (k + 1) y0 y1))
  | 0 => fun _ _ r h => by simp [code_number.l0] at h
  | k + 1 => by
    have ih0 := code_number.mono_l k
    · intro y0 y1
      unfold code_number.l0
      repeat' first
      | (with_reducible exact ih0 _ _)
      | (with_reducible exact LeO.refl _)
      | (with_reducible exact LeO.none _)
      | (with_reducible refine LeO.ite ?_ ?_)
      | (with_reducible refine LeO.bind ?_ (fun _ => ?_))
      | exact ih0 _ _
      | exact LeO.none _
      | refine LeO.ite ?_ ?_
      | refine LeO.bind ?_ (fun _ => ?_)
theorem code_number.mono : ∀ a0 a1 k, LeO (code_number.f k a0 a1) (code_number.f (k + 1) a0 a1) := by
  intro a0 a1 k
  have ih0 := code_number.mono_l k
  unfold code_number.f
  repeat' first
      | (with_reducible exact ih0 _ _)
      | (with_reducible exact LeO.refl _)
      | (with_reducible exact LeO.none _)
      | (with_reducible refine LeO.ite ?_ ?_)
      | (with_reducible refine LeO.bind ?_ (fun _ => ?_))
      | exact ih0 _ _
      | exact LeO.none _
      | refine LeO.ite ?_ ?_
      | refine LeO.bind ?_ (fun _ => ?_)
set_option maxHeartbeats 8000000 in
set_option maxRecDepth 100000 in
theorem code_number.calls (k : Nat) (P0_ : Nat → Prop) (u9000_ : Value) (l0 : List Int) (a1 : Int) (r : List Int) (w0 w : World) (hB : Below w0.heap.size w0 w) (ho0 : Kd.R (Kd.int .u8) 5 w w0.heap.size P0_ u9000_ l0) (h : code_number.f k l0 a1 = some r) :
    Calls Tryd.prog 21 #[u9000_, .int .u64 a1] w fun e w' => ∃ v0_ : Value, e = .returned (v0_) ∧ Kd.R (Kd.int .u8) 5 w' w0.heap.size (fun k_ => (P0_ k_ ∨ w.heap.size ≤ k_)) v0_ r ∧ Below w0.heap.size w0 w' ∧ Kept w w' (fun k_ => P0_ k_) := by
  have HO0 := Aside0.mk (show Kd.R (Kd.int .u8) 5 w w0.heap.size (fun k_ => (P0_ k_ ∨ w.heap.size ≤ k_)) u9000_ l0 from R_mono ho0 (fun k_ hk => (.inl hk)))
  have HK := Aside0.mk (Kept.refl w (fun k_ => P0_ k_))
  have HW0 := Aside0.mk hB.size
  have HB := Aside0.mk hB
  clear hB
  have H : (code_number.l0 k l0 a1) = some r := h
  clear h
  have H' := Aside0.mk H
  clear H
  go_enter Tryd.func21, Tryd.ntmps21
  go_wp2
  go_loopg [0, 1] k (fun kq v0 v1 w' => ∃ (x0_1 : List Int) (x1_1 : Int), v1 = .int .u64 x1_1 ∧ Aside0 (code_number.l0 kq x0_1 x1_1 = some r) ∧ Aside0 (kq ≤ k) ∧ Aside0 (Kd.R (Kd.int .u8) 5 w' w0.heap.size (fun k_ => (P0_ k_ ∨ w.heap.size ≤ k_)) v0 x0_1) ∧ Aside0 (Kept w w' (fun k_ => P0_ k_)) ∧ Aside0 (Below w0.heap.size w0 w'))
  case atStart => exact ⟨(l0), (a1), (by first | rfl | (simp; done) | (simp [*]; done)), H', ⟨Nat.le_refl _⟩, ⟨by (with_reducible repeat (first | apply R_alloc | apply R_drewN | apply R_drew)); exact HO0.out⟩, ⟨by repeat (first | (with_reducible first | exact HK.out | apply Kept.alloc | apply Kept.drewN | apply Kept.drew) | exact HK.out)⟩, ⟨by repeat (first | (with_reducible first | exact HB.out | apply below_alloc | apply pw_below_drewN | apply below_drew1) | exact HB.out)⟩⟩
  clear H'
  try clear c2
  try clear p2
  obtain ⟨x0_1, x1_1, rfl, HA, HK1, HO_0, HK, HB⟩ := hrel
  rcases gk with _ | k1
  · exact absurd HA.out (by simp [code_number.l0])
  have H := HA.out
  clear HA
  simp only [code_number.l0] at H
  by_cases c3 : x1_1 ≥ 128
  · rw [if_pos c3] at H
    have c3b0 : decide (128 ≤ x1_1) = true := decide_eq_true c3
    clear c3
    by_cases c4 : x0_1.length < 140737488355328
    rotate_left
    · rw [if_neg c4] at H
      exact absurd H (by simp)
    rw [if_pos c4] at H
    have LMc4 := Aside0.mk c4
    clear c4
    obtain ⟨y163, hy163⟩ : ∃ y_ : List Int, y_ = (x0_1 ++ [Go.bits .or .u8 ((x1_1) % 256) 128]) := ⟨_, rfl⟩
    replace H : (code_number.l0 k1 y163 (x1_1 / 128)) = some r := by first | (rw [hy163]; with_reducible exact H) | (have H2_ := (Option.bind_some _ _).symm.trans H; rw [hy163]; with_reducible exact H2_) | exact H
    have Ny163 := Aside0.mk hy163
    clear hy163
    have H' := Aside0.mk H
    clear H
    go_wp2_with (first | ((with_reducible refine gate_builtin (b := .append) (xs := #[.tmp 7, .tmp 11]) rfl ?_); at_builtin; refine Kd.R_append (Kd.int .u8) (w0 := w0) w0.heap.size rfl (.tmp 7) (.tmp 11) 27 5 (.int .u8 0) 1 rfl Tryd.underlying27 info5 rfl (by decide) (by omega) u0 x0_1 (Go.bits .or .u8 ((x1_1) % 256) 128) [.int .u8 (Go.bits .or .u8 ((x1_1) % 256) 128)] (fun k_ => (P0_ k_ ∨ w.heap.size ≤ k_)) (fun _ => False) rfl rfl ?aP (fun _ hk => hk.elim) ?aF ?aO ?aB ?aS ?aL ?_; (case aP => exact rfl); (case aB => exact (by repeat with_reducible first | exact HB.out | apply below_alloc | apply pw_below_drewN | apply below_drew1)); (case aF => exact (fun k_ hk => (.inr (Nat.le_trans (by first | exact HK.out.1 | exact (show Kept w _ (fun k_ => P0_ k_) from by repeat (first | (with_reducible first | exact HK.out | apply Kept.alloc | apply Kept.drewN | apply Kept.drew) | exact HK.out)).1) hk)))); (case aO => exact (by (with_reducible repeat (first | apply R_alloc | apply R_drewN | apply R_drew)); exact HO_0.out)); (case aS => exact (below_size (by repeat with_reducible first | exact HB.out | apply below_alloc | apply pw_below_drewN | apply below_drew1))); (case aL => have := LMc4.out; omega); intro v164 w5 ho hb hg hat; rw [← Ny163.out] at ho; have n0_ := Aside0.mk (hb); have n1_ := Aside0.mk (Kept.of_grown (S := (fun k_ => P0_ k_)) hg (by repeat (first | (with_reducible first | exact HK.out | apply Kept.alloc | apply Kept.drewN | apply Kept.drew) | exact HK.out)) (fun k_ e_ => (HO_0.out.1 k_ e_))); have n2_ := Aside0.mk (ho); clear HB; clear HK; clear HO_0; have HB := n0_; have HK := n1_; have HO165 := n2_; clear n0_ n1_ n2_; clear ho hb hg hat))
    go_roundg k1
    case measure => have := HK1.out; omega
    case rel => exact ⟨(y163), (x1_1 / 128), (by first | rfl | (simp; done) | (simp [*]; done)), H', ⟨by have := HK1.out; omega⟩, ⟨by (with_reducible repeat (first | apply R_alloc | apply R_drewN | apply R_drew)); exact HO165.out⟩, ⟨by repeat (first | (with_reducible first | exact HK.out | apply Kept.alloc | apply Kept.drewN | apply Kept.drew) | exact HK.out)⟩, ⟨by repeat (first | (with_reducible first | exact HB.out | apply below_alloc | apply pw_below_drewN | apply below_drew1) | exact HB.out)⟩⟩
  rw [if_neg c3] at H
  have c3b0 : decide (128 ≤ x1_1) = false := decide_eq_false c3
  clear c3
  by_cases c6 : x0_1.length < 140737488355328
  rotate_left
  · rw [if_neg c6] at H
    exact absurd H (by simp)


  rw [if_pos c6] at H
  have LMc6 := Aside0.mk c6
  clear c6
  obtain ⟨y166, hy166⟩ : ∃ y_ : List Int, y_ = (x0_1 ++ [(x1_1) % 256]) := ⟨_, rfl⟩
  replace H : (some y166) = some r := by first | (rw [hy166]; with_reducible exact H) | (have H2_ := (Option.bind_some _ _).symm.trans H; rw [hy166]; with_reducible exact H2_) | exact H
  have Ny166 := Aside0.mk hy166
  clear hy166
  obtain rfl := Option.some.inj H
  go_wp2_with (first | ((with_reducible refine gate_builtin (b := .append) (xs := #[.tmp 15, .tmp 18]) rfl ?_); at_builtin; refine Kd.R_append (Kd.int .u8) (w0 := w0) w0.heap.size rfl (.tmp 15) (.tmp 18) 27 5 (.int .u8 0) 1 rfl Tryd.underlying27 info5 rfl (by decide) (by omega) u0 x0_1 ((x1_1) % 256) [.int .u8 ((x1_1) % 256)] (fun k_ => (P0_ k_ ∨ w.heap.size ≤ k_)) (fun _ => False) rfl rfl ?aP (fun _ hk => hk.elim) ?aF ?aO ?aB ?aS ?aL ?_; (case aP => exact rfl); (case aB => exact (by repeat with_reducible first | exact HB.out | apply below_alloc | apply pw_below_drewN | apply below_drew1)); (case aF => exact (fun k_ hk => (.inr (Nat.le_trans (by first | exact HK.out.1 | exact (show Kept w _ (fun k_ => P0_ k_) from by repeat (first | (with_reducible first | exact HK.out | apply Kept.alloc | apply Kept.drewN | apply Kept.drew) | exact HK.out)).1) hk)))); (case aO => exact (by (with_reducible repeat (first | apply R_alloc | apply R_drewN | apply R_drew)); exact HO_0.out)); (case aS => exact (below_size (by repeat with_reducible first | exact HB.out | apply below_alloc | apply pw_below_drewN | apply below_drew1))); (case aL => have := LMc6.out; omega); intro v167 w7 ho hb hg hat; rw [← Ny166.out] at ho; have n0_ := Aside0.mk (hb); have n1_ := Aside0.mk (Kept.of_grown (S := (fun k_ => P0_ k_)) hg (by repeat (first | (with_reducible first | exact HK.out | apply Kept.alloc | apply Kept.drewN | apply Kept.drew) | exact HK.out)) (fun k_ e_ => (HO_0.out.1 k_ e_))); have n2_ := Aside0.mk (ho); clear HB; clear HK; clear HO_0; have HB := n0_; have HK := n1_; have HO168 := n2_; clear n0_ n1_ n2_; clear ho hb hg hat))
  go_ret
  exact ⟨_, by first | rfl | (simp [errW_none, errW_some] <;> rfl) | (simp [*, errW_none, errW_some] <;> rfl), by (with_reducible repeat (first | apply R_alloc | apply R_drewN | apply R_drew)); exact HO168.out, by repeat (first | (with_reducible first | exact HB.out | apply below_alloc | apply pw_below_drewN | apply below_drew1) | exact HB.out), by repeat (first | (with_reducible first | exact HK.out | apply Kept.alloc | apply Kept.drewN | apply Kept.drew) | exact HK.out)⟩
/-! ### code_list: function 22 -/
def code_list.l0 : Nat → List Int → List Int → Int → Int → Option (List Int)
  | 0, _, _, _, _ => none
  | k + 1, x0, x12, x13, x14 => if x14 < x13 then (if 0 ≤ x14 then (if x14 < (x12.length : Int) then ((code_number.f k x0 (IntKind.u64.wrap (rd x12 x14))).bind fun t173 => (code_list.l0 k t173 x12 x13 (wrap64 (x14 + 1)))) else (none)) else (none)) else (some x0)
def code_list.f (k : Nat) (l0 : List Int) (l1 : List Int) : Option (List Int) := (code_number.f k l0 (IntKind.u64.wrap ((l1.length : Int)))).bind fun t169 => (code_list.l0 k t169 l1 (l1.length : Int) 0)
theorem code_list.mono_l : ∀ k, (∀ y0 y1 y2 y3, LeO (code_list.l0 k y0 y1 y2 y3) (code_list.l0 (k + 1) y0 y1 y2 y3))
  | 0 => fun _ _ _ _ r h => by simp [code_list.l0] at h
  | k + 1 => by
    have ih0 := code_list.mono_l k
    · intro y0 y1 y2 y3
      unfold code_list.l0
      repeat' first
      | (with_reducible exact ih0 _ _ _ _)
      | (with_reducible exact code_number.mono _ _ _)
      | (with_reducible exact LeO.refl _)
      | (with_reducible exact LeO.none _)
      | (with_reducible refine LeO.ite ?_ ?_)
      | (with_reducible refine LeO.bind ?_ (fun _ => ?_))
      | exact ih0 _ _ _ _
      | exact code_number.mono _ _ _
      | exact LeO.none _
      | refine LeO.ite ?_ ?_
      | refine LeO.bind ?_ (fun _ => ?_)
theorem code_list.mono : ∀ a0 a1 k, LeO (code_list.f k a0 a1) (code_list.f (k + 1) a0 a1) := by
  intro a0 a1 k
  have ih0 := code_list.mono_l k
  unfold code_list.f
  repeat' first
      | (with_reducible exact ih0 _ _ _ _)
      | (with_reducible exact code_number.mono _ _ _)
      | (with_reducible exact LeO.refl _)
      | (with_reducible exact LeO.none _)
      | (with_reducible refine LeO.ite ?_ ?_)
      | (with_reducible refine LeO.bind ?_ (fun _ => ?_))
      | exact ih0 _ _ _ _
      | exact code_number.mono _ _ _
      | exact LeO.none _
      | refine LeO.ite ?_ ?_
      | refine LeO.bind ?_ (fun _ => ?_)
set_option maxHeartbeats 8000000 in
set_option maxRecDepth 100000 in
theorem code_list.calls (k : Nat) (P0_ : Nat → Prop) (u9000_ : Value) (l0 : List Int) (A1 : Option Addr) (c1 : Nat) (l1 : List Int) (r : List Int) (w0 w : World) (hB : Below w0.heap.size w0 w) (ho0 : Kd.R (Kd.int .u8) 5 w w0.heap.size P0_ u9000_ l0) (hr1 : ∀ W_, Kept w W_ (fun k_ => P0_ k_) → Kd.C (Kd.int .i64) W_ A1 l1.length l1) (hc1 : l1.length ≤ c1) (h : code_list.f k l0 l1 = some r) :
    Calls Tryd.prog 22 #[u9000_, .slice A1 l1.length c1] w fun e w' => ∃ v0_ : Value, e = .returned (v0_) ∧ Kd.R (Kd.int .u8) 5 w' w0.heap.size (fun k_ => (P0_ k_ ∨ w.heap.size ≤ k_)) v0_ r ∧ Below w0.heap.size w0 w' ∧ Kept w w' (fun k_ => P0_ k_) := by
  have HO0 := Aside0.mk (show Kd.R (Kd.int .u8) 5 w w0.heap.size (fun k_ => (P0_ k_ ∨ w.heap.size ≤ k_)) u9000_ l0 from R_mono ho0 (fun k_ hk => (.inl hk)))
  have HR1 := Aside0.mk hr1
  have HC1 := Aside0.mk hc1
  clear hr1 hc1
  have HK := Aside0.mk (Kept.refl w (fun k_ => P0_ k_))
  have HW0 := Aside0.mk hB.size
  have HB := Aside0.mk hB
  clear hB
  have H : ((code_number.f k l0 (IntKind.u64.wrap ((l1.length : Int)))).bind fun t169 => (code_list.l0 k t169 l1 (l1.length : Int) 0)) = some r := h
  clear h
  replace H := Option.bind_eq_some_iff.mp H
  obtain ⟨t169, A30, H⟩ := H
  replace H : (code_list.l0 k t169 l1 (l1.length : Int) 0) = some r := H
  have A3 := Aside0.mk A30
  clear A30
  have H' := Aside0.mk H
  clear H
  obtain ⟨Ao4, co4, eo4⟩ := Kd.R_slice HO0.out
  subst eo4
  go_enter Tryd.func22, Tryd.ntmps22
  go_wp2_with (first | ((with_reducible refine gate_callee (f := 21) rfl ?_); refine goesL_ (some 11) rfl rfl Tryd.func21 (by kernel_rfl) rfl #[.slice Ao4 l0.length co4, .int .u64 (IntKind.u64.wrap ((l1.length : Int)))] rfl (by (try simp only [List.map_toArray, List.map_cons, List.map_nil]); first | done | rfl) ?_; (with_reducible refine (code_number.calls k (fun k_ => some k_ = (.slice Ao4 l0.length co4 : Value).ownBlock) (.slice Ao4 l0.length co4) l0 (IntKind.u64.wrap ((l1.length : Int))) t169 w0 _ ?side1 ?side2 A3.out).mono ?_); (case side1 => repeat (first | (with_reducible first | exact HB.out | apply below_alloc | apply pw_below_drewN | apply below_drew1) | exact HB.out)); (case side2 => exact Kd.R_tight rfl HO0.out); rintro e w5 ⟨v170, rfl, ho0, hb, hkp⟩; refine ⟨_, rfl, ?_⟩; have n0_ := Aside0.mk (R_mono (ok' := fun k_ => (P0_ k_ ∨ w.heap.size ≤ k_)) ho0 (fun k_ hk_ => Or.elim hk_ (fun hs_ => (HO0.out.1 k_ (hs_).symm)) (fun hn_ => (.inr (Nat.le_trans (by first | exact HK.out.1 | exact (show Kept w _ (fun k_ => P0_ k_) from by repeat (first | (with_reducible first | exact HK.out | apply Kept.alloc | apply Kept.drewN | apply Kept.drew) | exact HK.out)).1) hn_))))); have n1_ := Aside0.mk (Kept.then_ (S := (fun k_ => P0_ k_)) (by repeat (first | (with_reducible first | exact HK.out | apply Kept.alloc | apply Kept.drewN | apply Kept.drew) | exact HK.out)) hkp (fun k_ hs_ => (fun e_ => (HO0.out.1 k_ e_.symm)) hs_)); have n2_ := Aside0.mk (hb); clear HK; clear HB; clear HO0; have HO171 := n0_; have HK := n1_; have HB := n2_; clear n0_ n1_ n2_; (try clear hb); (try clear hkp); (try clear ho0)))
  go_loopg [0, 14] k (fun kq v0 v14 w' => ∃ (x0_1 : List Int) (x14_1 : Int), v14 = .int .i64 x14_1 ∧ Aside0 (code_list.l0 kq x0_1 l1 (l1.length : Int) x14_1 = some r) ∧ Aside0 (kq ≤ k) ∧ Aside0 (Kd.R (Kd.int .u8) 5 w' w0.heap.size (fun k_ => (P0_ k_ ∨ w.heap.size ≤ k_)) v0 x0_1) ∧ Aside0 (Kept w w' (fun k_ => P0_ k_)) ∧ Aside0 (Below w0.heap.size w0 w'))
  case atStart => exact ⟨(t169), (0), (by first | rfl | (simp; done) | (simp [*]; done)), H', ⟨Nat.le_refl _⟩, ⟨by (with_reducible repeat (first | apply R_alloc | apply R_drewN | apply R_drew)); exact HO171.out⟩, ⟨by repeat (first | (with_reducible first | exact HK.out | apply Kept.alloc | apply Kept.drewN | apply Kept.drew) | exact HK.out)⟩, ⟨by repeat (first | (with_reducible first | exact HB.out | apply below_alloc | apply pw_below_drewN | apply below_drew1) | exact HB.out)⟩⟩
  clear H'
  try clear c1
  try clear c2
  try clear p2
  obtain ⟨x0_1, x14_1, rfl, HA, HK1, HO_0, HK, HB⟩ := hrel
  rcases gk with _ | k1
  · exact absurd HA.out (by simp [code_list.l0])
  have H := HA.out
  clear HA
  simp only [code_list.l0] at H
  by_cases c6 : x14_1 < (l1.length : Int)
  · rw [if_pos c6] at H
    have c6b0 : decide (x14_1 < (l1.length : Int)) = true := decide_eq_true c6
    clear c6
    by_cases c7 : 0 ≤ x14_1
    rotate_left
    · rw [if_neg c7] at H
      exact absurd H (by simp)
    rw [if_pos c7] at H
    have c7b0 : decide (0 ≤ x14_1) = true := decide_eq_true c7
    clear c7
    by_cases c8 : x14_1 < (l1.length : Int)
    rotate_left
    · rw [if_neg c8] at H
      exact absurd H (by simp)
    rw [if_pos c8] at H
    have c8b0 : decide (x14_1 < (l1.length : Int)) = true := decide_eq_true c8
    clear c8
    replace H := Option.bind_eq_some_iff.mp H
    obtain ⟨t173, A90, H⟩ := H
    replace H : (code_list.l0 k1 t173 l1 (l1.length : Int) (wrap64 (x14_1 + 1))) = some r := H
    have A9 := Aside0.mk A90
    clear A90
    have H' := Aside0.mk H
    clear H
    have p172 : 0 ≤ (x14_1 : Int) := of_decide_eq_true (by with_reducible assumption)
    have q172 : x14_1 < (l1.length : Int) := of_decide_eq_true (by with_reducible assumption)
    obtain ⟨ad172, e172, hx172_0⟩ := Kd.at_int (Kd.C_kept_now HR1.out HK.out) x14_1 p172 q172
    cases e172
    replace p172 := eq_true p172
    replace q172 := eq_true q172
    obtain ⟨Ao10, co10, eo10⟩ := Kd.R_slice HO_0.out
    subst eo10
    go_wp2_with (first | ((with_reducible refine gate_callee (f := 21) rfl ?_); refine goesL_ (some 21) rfl rfl Tryd.func21 (by kernel_rfl) rfl #[.slice Ao10 x0_1.length co10, .int .u64 (IntKind.u64.wrap (rd l1 x14_1))] rfl (by (try simp only [List.map_toArray, List.map_cons, List.map_nil]); first | done | rfl) ?_; (with_reducible refine (code_number.calls k1 (fun k_ => some k_ = (.slice Ao10 x0_1.length co10 : Value).ownBlock) (.slice Ao10 x0_1.length co10) x0_1 (IntKind.u64.wrap (rd l1 x14_1)) t173 w0 _ ?side1 ?side2 A9.out).mono ?_); (case side1 => repeat (first | (with_reducible first | exact HB.out | apply below_alloc | apply pw_below_drewN | apply below_drew1) | exact HB.out)); (case side2 => exact Kd.R_tight rfl HO_0.out); rintro e w11 ⟨v174, rfl, ho0, hb, hkp⟩; refine ⟨_, rfl, ?_⟩; have n0_ := Aside0.mk (R_mono (ok' := fun k_ => (P0_ k_ ∨ w.heap.size ≤ k_)) ho0 (fun k_ hk_ => Or.elim hk_ (fun hs_ => (HO_0.out.1 k_ (hs_).symm)) (fun hn_ => (.inr (Nat.le_trans (by first | exact HK.out.1 | exact (show Kept w _ (fun k_ => P0_ k_) from by repeat (first | (with_reducible first | exact HK.out | apply Kept.alloc | apply Kept.drewN | apply Kept.drew) | exact HK.out)).1) hn_))))); have n1_ := Aside0.mk (Kept.then_ (S := (fun k_ => P0_ k_)) (by repeat (first | (with_reducible first | exact HK.out | apply Kept.alloc | apply Kept.drewN | apply Kept.drew) | exact HK.out)) hkp (fun k_ hs_ => (fun e_ => (HO_0.out.1 k_ e_.symm)) hs_)); have n2_ := Aside0.mk (hb); clear HK; clear HB; clear HO_0; have HO175 := n0_; have HK := n1_; have HB := n2_; clear n0_ n1_ n2_; (try clear hb); (try clear hkp); (try clear ho0)))
    go_roundg k1
    case measure => have := HK1.out; omega
    case rel => exact ⟨(t173), (wrap64 (x14_1 + 1)), (by first | rfl | (simp; done) | (simp [*]; done)), H', ⟨by have := HK1.out; omega⟩, ⟨by (with_reducible repeat (first | apply R_alloc | apply R_drewN | apply R_drew)); exact HO175.out⟩, ⟨by repeat (first | (with_reducible first | exact HK.out | apply Kept.alloc | apply Kept.drewN | apply Kept.drew) | exact HK.out)⟩, ⟨by repeat (first | (with_reducible first | exact HB.out | apply below_alloc | apply pw_below_drewN | apply below_drew1) | exact HB.out)⟩⟩
  rw [if_neg c6] at H
  have c6b0 : decide (x14_1 < (l1.length : Int)) = false := decide_eq_false c6
  clear c6
  obtain rfl := Option.some.inj H
  go_wp2
  go_ret
  exact ⟨_, by first | rfl | (simp [errW_none, errW_some] <;> rfl) | (simp [*, errW_none, errW_some] <;> rfl), by (with_reducible repeat (first | apply R_alloc | apply R_drewN | apply R_drew)); exact HO_0.out, by repeat (first | (with_reducible first | exact HB.out | apply below_alloc | apply pw_below_drewN | apply below_drew1) | exact HB.out), by repeat (first | (with_reducible first | exact HK.out | apply Kept.alloc | apply Kept.drewN | apply Kept.drew) | exact HK.out)⟩

/-! ### code_signed: function 42 -/
def code_signed.f (k : Nat) (l0 : List Int) (a1 : Int) : Option (List Int) := (code_number.f k l0 (Go.bits .xor .u64 (IntKind.u64.wrap ((IntKind.u64.wrap (a1)) * 2)) (IntKind.u64.wrap (a1 / 9223372036854775808)))).bind fun t176 => (some t176)
theorem code_signed.mono : ∀ a0 a1 k, LeO (code_signed.f k a0 a1) (code_signed.f (k + 1) a0 a1) := by
  intro a0 a1 k
  unfold code_signed.f
  repeat' first
      | (with_reducible exact code_number.mono _ _ _)
      | (with_reducible exact LeO.refl _)
      | (with_reducible exact LeO.none _)
      | (with_reducible refine LeO.ite ?_ ?_)
      | (with_reducible refine LeO.bind ?_ (fun _ => ?_))
      | exact code_number.mono _ _ _
      | exact LeO.none _
      | refine LeO.ite ?_ ?_
      | refine LeO.bind ?_ (fun _ => ?_)
set_option maxHeartbeats 8000000 in
set_option maxRecDepth 100000 in
theorem code_signed.calls (k : Nat) (P0_ : Nat → Prop) (u9000_ : Value) (l0 : List Int) (a1 : Int) (r : List Int) (w0 w : World) (hB : Below w0.heap.size w0 w) (ho0 : Kd.R (Kd.int .u8) 5 w w0.heap.size P0_ u9000_ l0) (h : code_signed.f k l0 a1 = some r) :
    Calls Tryd.prog 42 #[u9000_, .int .i64 a1] w fun e w' => ∃ v0_ : Value, e = .returned (v0_) ∧ Kd.R (Kd.int .u8) 5 w' w0.heap.size (fun k_ => (P0_ k_ ∨ w.heap.size ≤ k_)) v0_ r ∧ Below w0.heap.size w0 w' ∧ Kept w w' (fun k_ => P0_ k_) := by
  have HO0 := Aside0.mk (show Kd.R (Kd.int .u8) 5 w w0.heap.size (fun k_ => (P0_ k_ ∨ w.heap.size ≤ k_)) u9000_ l0 from R_mono ho0 (fun k_ hk => (.inl hk)))
  have HK := Aside0.mk (Kept.refl w (fun k_ => P0_ k_))
  have HW0 := Aside0.mk hB.size
  have HB := Aside0.mk hB
  clear hB
  have H : ((code_number.f k l0 (Go.bits .xor .u64 (IntKind.u64.wrap ((IntKind.u64.wrap (a1)) * 2)) (IntKind.u64.wrap (a1 / 9223372036854775808)))).bind fun t176 => (some t176)) = some r := h
  clear h
  replace H := Option.bind_eq_some_iff.mp H
  obtain ⟨t176, A30, H⟩ := H
  replace H : (some t176) = some r := H
  have A3 := Aside0.mk A30
  clear A30
  obtain rfl := Option.some.inj H
  obtain ⟨Ao4, co4, eo4⟩ := Kd.R_slice HO0.out
  subst eo4
  go_enter Tryd.func42, Tryd.ntmps42
  go_wp2_with (first | ((with_reducible refine gate_callee (f := 21) rfl ?_); refine goesL_ (some 13) rfl rfl Tryd.func21 (by kernel_rfl) rfl #[.slice Ao4 l0.length co4, .int .u64 (Go.bits .xor .u64 (IntKind.u64.wrap ((IntKind.u64.wrap (a1)) * 2)) (IntKind.u64.wrap (a1 / 9223372036854775808)))] rfl (by (try simp only [List.map_toArray, List.map_cons, List.map_nil]); first | done | rfl) ?_; (with_reducible refine (code_number.calls k (fun k_ => some k_ = (.slice Ao4 l0.length co4 : Value).ownBlock) (.slice Ao4 l0.length co4) l0 (Go.bits .xor .u64 (IntKind.u64.wrap ((IntKind.u64.wrap (a1)) * 2)) (IntKind.u64.wrap (a1 / 9223372036854775808))) t176 w0 _ ?side1 ?side2 A3.out).mono ?_); (case side1 => repeat (first | (with_reducible first | exact HB.out | apply below_alloc | apply pw_below_drewN | apply below_drew1) | exact HB.out)); (case side2 => exact Kd.R_tight rfl HO0.out); rintro e w5 ⟨v177, rfl, ho0, hb, hkp⟩; refine ⟨_, rfl, ?_⟩; have n0_ := Aside0.mk (R_mono (ok' := fun k_ => (P0_ k_ ∨ w.heap.size ≤ k_)) ho0 (fun k_ hk_ => Or.elim hk_ (fun hs_ => (HO0.out.1 k_ (hs_).symm)) (fun hn_ => (.inr (Nat.le_trans (by first | exact HK.out.1 | exact (show Kept w _ (fun k_ => P0_ k_) from by repeat (first | (with_reducible first | exact HK.out | apply Kept.alloc | apply Kept.drewN | apply Kept.drew) | exact HK.out)).1) hn_))))); have n1_ := Aside0.mk (Kept.then_ (S := (fun k_ => P0_ k_)) (by repeat (first | (with_reducible first | exact HK.out | apply Kept.alloc | apply Kept.drewN | apply Kept.drew) | exact HK.out)) hkp (fun k_ hs_ => (fun e_ => (HO0.out.1 k_ e_.symm)) hs_)); have n2_ := Aside0.mk (hb); clear HK; clear HB; clear HO0; have HO178 := n0_; have HK := n1_; have HB := n2_; clear n0_ n1_ n2_; (try clear hb); (try clear hkp); (try clear ho0)))
  go_ret
  exact ⟨_, by first | rfl | (simp [errW_none, errW_some] <;> rfl) | (simp [*, errW_none, errW_some] <;> rfl), by (with_reducible repeat (first | apply R_alloc | apply R_drewN | apply R_drew)); exact HO178.out, by repeat (first | (with_reducible first | exact HB.out | apply below_alloc | apply pw_below_drewN | apply below_drew1) | exact HB.out), by repeat (first | (with_reducible first | exact HK.out | apply Kept.alloc | apply Kept.drewN | apply Kept.drew) | exact HK.out)⟩

-- NOT PRINTED: function 23 (code_block)

-- NOT PRINTED: function 11 (code_Encode)

-- NOT PRINTED: function 32 (code_reader_fail)

-- NOT PRINTED: function 71 (code_reader_number)

-- NOT PRINTED: function 52 (code_reader_int)

-- NOT PRINTED: function 30 (code_reader_count)

-- NOT PRINTED: function 53 (code_reader_list)

-- NOT PRINTED: function 80 (code_reader_signed)

-- NOT PRINTED: function 72 (code_reader_instr)

-- NOT PRINTED: function 54 (code_reader_block)

-- NOT PRINTED: function 31 (code_reader_function)

-- NOT PRINTED: function 15 (code_Decode)

-- NOT PRINTED: function 48 (reflectlite_ValueOf)

-- NOT PRINTED: function 49 (reflectlite_Value_Type)

-- NOT PRINTED: function 50 (reflectlite_Value_IsNil)

-- NOT PRINTED: function 59 (reflectlite_TypeOf)

-- NOT PRINTED: function 69 (reflectlite_Value_Elem)

-- NOT PRINTED: function 70 (reflectlite_Value_Set)

-- NOT PRINTED: function 51 (errors_as)

-- NOT PRINTED: function 25 (errors_As)

-- NOT PRINTED: function 60 (errors_is)

-- NOT PRINTED: function 40 (errors_Is)

-- NOT PRINTED: function 19 (fettlelaw00_Is)

-- NOT PRINTED: function 9 (fettlelaw03_up)

end Go.Proofs.YtckebppacealeaaDoor.PCodeUnlike
