-- Laid by a program of this session (wip/pp/patch.py over the kit's print).
-- mended yes
import Derived.Test.YtpionncanaamgaaPLoopsPathsx0
import Derived.Test.YtpionncanaamgaaPLoopsPathsx1
namespace Go.Proofs.Ytpionncanaamgaa.PLoopsPaths
open Go.RowKit Go.Proofs.YtpionncanaamgaaW.PrintWords Go.Proofs.YtpionncanaamgaaW.PrintLast Go.Proofs.YtpionncanaamgaaW.PrintMore Go.Proofs.YtpionncanaamgaaW.PrintWords.Kd
attribute [local go_sem] max2_int min2_int max_two min_two max_three min_three max_four min_four   -- for this text's walks alone
set_option linter.unusedVariables false
set_option linter.unusedSimpArgs false

/-! ### graph_Next: function 31 -/
mutual
def graph_Next.l0 : Nat → List (List Int) → List (S52) → Int → Int → Option ((List (List Int)))
  | 0, _, _, _, _ => none
  | k + 1, x3, x13, x14, x15 => if x15 < x14 then (if 0 ≤ x15 then (if x15 < (x13.length : Int) then (graph_Next.l1 k x3 x15 x13 x14 x15 ((rd_T52 x13 x15).f2.f2) (((rd_T52 x13 x15).f2.f2).length : Int) 0) else (none)) else (none)) else (some x3)
def graph_Next.l1 : Nat → List (List Int) → Int → List (S52) → Int → Int → List Int → Int → Int → Option ((List (List Int)))
  | 0, _, _, _, _, _, _, _, _ => none
  | k + 1, x3, x4, x13, x14, x15, x22, x23, x24 => if x24 < x23 then (if 0 ≤ x24 then (if x24 < (x22.length : Int) then (if (rd x22 x24) ≥ 0 then (if (rd x22 x24) < (x3.length : Int) then (if 0 ≤ x4 then (if x4 < (x3.length : Int) then ((slices_Contains_int_int.f k (rd_L1 x3 x4) (rd x22 x24)).bind fun t121 => (if t121 = true then (graph_Next.l1 k x3 x4 x13 x14 x15 x22 x23 (wrap64 (x24 + 1))) else (if (rd_L1 x3 x4).length < 17592186044416 then (graph_Next.l1 k (x3.set (x4 : Int).toNat ((rd_L1 x3 x4) ++ [rd x22 x24])) x4 x13 x14 x15 x22 x23 (wrap64 (x24 + 1))) else (none)))) else (none)) else (none)) else (graph_Next.l1 k x3 x4 x13 x14 x15 x22 x23 (wrap64 (x24 + 1)))) else (graph_Next.l1 k x3 x4 x13 x14 x15 x22 x23 (wrap64 (x24 + 1)))) else (none)) else (none)) else (graph_Next.l0 k x3 x13 x14 (wrap64 (x15 + 1)))
end
def graph_Next.f (k : Nat) (a0_0 : Int) (a0_1 : Int) (l0_2 : List Int) (l0_3 : List (S52)) : Option ((List (List Int))) := if 0 ≤ (l0_3.length : Int) then (if ((l0_3.length : Int) : Int).toNat ≤ 11728124029610 then (graph_Next.l0 k (List.replicate ((l0_3.length : Int) : Int).toNat []) l0_3 (l0_3.length : Int) 0) else (none)) else (none)
theorem graph_Next.mono_l : ∀ k, (∀ y0 y1 y2 y3, LeO (graph_Next.l0 k y0 y1 y2 y3) (graph_Next.l0 (k + 1) y0 y1 y2 y3)) ∧ (∀ y0 y1 y2 y3 y4 y5 y6 y7, LeO (graph_Next.l1 k y0 y1 y2 y3 y4 y5 y6 y7) (graph_Next.l1 (k + 1) y0 y1 y2 y3 y4 y5 y6 y7))
  | 0 => ⟨fun _ _ _ _ r h => by simp [graph_Next.l0] at h, fun _ _ _ _ _ _ _ _ r h => by simp [graph_Next.l1] at h⟩
  | k + 1 => by
    obtain ⟨ih0, ih1⟩ := graph_Next.mono_l k
    refine ⟨?_, ?_⟩
    · intro y0 y1 y2 y3
      unfold graph_Next.l0
      repeat' first
      | (with_reducible exact ih0 _ _ _ _)
      | (with_reducible exact ih1 _ _ _ _ _ _ _ _)
      | (with_reducible exact slices_Contains_int_int.mono _ _ _)
      | (with_reducible exact LeO.refl _)
      | (with_reducible exact LeO.none _)
      | (with_reducible refine LeO.ite ?_ ?_)
      | (with_reducible refine LeO.bind ?_ (fun _ => ?_))
      | exact ih0 _ _ _ _
      | exact ih1 _ _ _ _ _ _ _ _
      | exact slices_Contains_int_int.mono _ _ _
      | exact LeO.none _
      | refine LeO.ite ?_ ?_
      | refine LeO.bind ?_ (fun _ => ?_)
    · intro y0 y1 y2 y3 y4 y5 y6 y7
      unfold graph_Next.l1
      repeat' first
      | (with_reducible exact ih0 _ _ _ _)
      | (with_reducible exact ih1 _ _ _ _ _ _ _ _)
      | (with_reducible exact slices_Contains_int_int.mono _ _ _)
      | (with_reducible exact LeO.refl _)
      | (with_reducible exact LeO.none _)
      | (with_reducible refine LeO.ite ?_ ?_)
      | (with_reducible refine LeO.bind ?_ (fun _ => ?_))
      | exact ih0 _ _ _ _
      | exact ih1 _ _ _ _ _ _ _ _
      | exact slices_Contains_int_int.mono _ _ _
      | exact LeO.none _
      | refine LeO.ite ?_ ?_
      | refine LeO.bind ?_ (fun _ => ?_)
theorem graph_Next.mono : ∀ a0 a1 a2 a3 k, LeO (graph_Next.f k a0 a1 a2 a3) (graph_Next.f (k + 1) a0 a1 a2 a3) := by
  intro a0 a1 a2 a3 k
  obtain ⟨ih0, ih1⟩ := graph_Next.mono_l k
  unfold graph_Next.f
  repeat' first
      | (with_reducible exact ih0 _ _ _ _)
      | (with_reducible exact ih1 _ _ _ _ _ _ _ _)
      | (with_reducible exact slices_Contains_int_int.mono _ _ _)
      | (with_reducible exact LeO.refl _)
      | (with_reducible exact LeO.none _)
      | (with_reducible refine LeO.ite ?_ ?_)
      | (with_reducible refine LeO.bind ?_ (fun _ => ?_))
      | exact ih0 _ _ _ _
      | exact ih1 _ _ _ _ _ _ _ _
      | exact slices_Contains_int_int.mono _ _ _
      | exact LeO.none _
      | refine LeO.ite ?_ ?_
      | refine LeO.bind ?_ (fun _ => ?_)
set_option maxHeartbeats 8000000 in
set_option maxRecDepth 100000 in
theorem graph_Next.calls (k : Nat) (a0_0 : Int) (a0_1 : Int) (A0_2 : Option Addr) (c0_2 : Nat) (l0_2 : List Int) (A0_3 : Option Addr) (c0_3 : Nat) (l0_3 : List (S52)) (r : List (List Int)) (w : World) (hr0_2 : Kd.C (Kd.int .i64) w A0_2 l0_2.length l0_2) (hc0_2 : l0_2.length ≤ c0_2) (hr0_3 : Kd.C k52 w A0_3 l0_3.length l0_3) (hc0_3 : l0_3.length ≤ c0_3) (h : graph_Next.f k a0_0 a0_1 l0_2 l0_3 = some r) :
    Calls Try.prog 31 #[.agg #[.int .i64 a0_0, .int .i64 a0_1, .slice A0_2 l0_2.length c0_2, .slice A0_3 l0_3.length c0_3]] w fun e w' => ∃ v0_ : Value, e = .returned (v0_) ∧ Kd.S (Kd.slice 3 (Kd.int .i64)) 22 w' w.heap.size (fun _ => True) v0_ r ∧ Below w.heap.size w w' := by
  have hu25 := Try.underlying25
  have hu52 := Try.underlying52
  have HR0_2 := Aside0.mk hr0_2
  have HC0_2 := Aside0.mk hc0_2
  clear hr0_2 hc0_2
  have HR0_3 := Aside0.mk hr0_3
  have HC0_3 := Aside0.mk hc0_3
  clear hr0_3 hc0_3
  have HB := Aside0.mk (Below.refl w.heap.size w)
  have H : (if 0 ≤ (l0_3.length : Int) then (if ((l0_3.length : Int) : Int).toNat ≤ 11728124029610 then (graph_Next.l0 k (List.replicate ((l0_3.length : Int) : Int).toNat []) l0_3 (l0_3.length : Int) 0) else (none)) else (none)) = some r := h
  clear h
  by_cases c2 : 0 ≤ (l0_3.length : Int)
  rotate_left
  · rw [if_neg c2] at H
    exact absurd H (by simp)


  rw [if_pos c2] at H
  have c2b0 := eq_true c2
  have c2b1 : decide (0 ≤ (l0_3.length : Int)) = true := decide_eq_true c2
  clear c2
  by_cases c3 : ((l0_3.length : Int) : Int).toNat ≤ 11728124029610
  rotate_left
  · rw [if_neg c3] at H
    exact absurd H (by simp)
  rw [if_pos c3] at H
  have c3b0 := eq_true c3
  have c3b1 : decide (((l0_3.length : Int) : Int).toNat ≤ 11728124029610) = true := decide_eq_true c3
  clear c3
  obtain ⟨y114, hy114⟩ : ∃ y_ : List (List Int), y_ = (List.replicate ((l0_3.length : Int) : Int).toNat []) := ⟨_, rfl⟩
  replace H : (graph_Next.l0 k y114 l0_3 (l0_3.length : Int) 0) = some r := by first | (rw [hy114]; with_reducible exact H) | (have H2_ := (Option.bind_some _ _).symm.trans H; rw [hy114]; with_reducible exact H2_) | exact H
  have Ny114 := Aside0.mk hy114
  clear hy114
  have H' := Aside0.mk H
  clear H
  go_enter Try.func31, Try.ntmps31
  go_wp2_with (first | ((with_reducible refine gate_dst (N := 1) rfl ?_); (try (refine gate_guard (by rfl) ?_; dsimp only)); refine box_event ?hg (N := 1) ?hd (cs := #[.int .i64 a0_0, .int .i64 a0_1, .slice A0_2 l0_2.length c0_2, .slice A0_3 l0_3.length c0_3]) (t := 25) ?hr ?_; (case hd => rfl); (case hg => rfl); (case hr => first | (go_simp; done) | (go_simp; rfl)); intro gb113 hg w4 hbox hb; have n0_ := Aside0.mk (below_step (by repeat with_reducible first | exact HB.out | apply below_alloc | apply pw_below_drewN | apply below_drew1) hb); have n1_ := Aside0.mk (hbox); have n2_ := Aside0.mk ((by rw [hg]; exact (below_size (by repeat with_reducible first | exact HB.out | apply below_alloc | apply pw_below_drewN | apply below_drew1)) : w.heap.size ≤ gb113)); have n3_ := Aside0.mk ((by rw [hg]; exact (below_size (by repeat with_reducible first | exact HB.out | apply below_alloc | apply pw_below_drewN | apply below_drew1)) : w.heap.size ≤ gb113)); clear HB; have HB := n0_; have BK113 := n1_; have GW113 := n2_; have GE113 := n3_; clear n0_ n1_ n2_ n3_; clear hb hbox hg; have hcz5_0 : w4.cell? ⟨gb113, 0, none⟩ = some (.int .i64 a0_0) := (blk_cell BK113.out 0).trans rfl; have hcz5_1 : w4.cell? ⟨gb113, 1, none⟩ = some (.int .i64 a0_1) := (blk_cell BK113.out 1).trans rfl; have hcz5_2 : w4.cell? ⟨gb113, 2, none⟩ = some (.slice A0_2 l0_2.length c0_2) := (blk_cell BK113.out 2).trans rfl; have hcz5_3 : w4.cell? ⟨gb113, 3, none⟩ = some (.slice A0_3 l0_3.length c0_3) := (blk_cell BK113.out 3).trans rfl; have hfz5_0 := blk_frozen BK113.out 0; have hfz5_1 := blk_frozen BK113.out 1; have hfz5_2 := blk_frozen BK113.out 2; have hfz5_3 := blk_frozen BK113.out 3) | ((with_reducible refine gate_dst (N := 11) rfl ?_); (try (refine gate_guard (by rfl) ?_; dsimp only)); refine Kd.S_make (Kd.slice 3 (Kd.int .i64)) _ 22 rfl (N := 11) rfl 28 _ _ rfl (l0_3.length : Int) rfl rfl Try.underlying28 (.slice none 0 0) 24 info22 rfl (by decide) (by omega) [] (ok := fun _ => True) (okp := fun _ => True) ⟨_, rfl, Kd.R_nil _ _ _ _ _⟩ (fun _ hk => hk) trivial (of_decide_eq_true (by with_reducible assumption)) (Nat.le_trans (Nat.mul_le_mul_right _ (of_decide_eq_true (by with_reducible assumption) : (l0_3.length : Int).toNat ≤ 11728124029610)) (by omega)) (Below.refl _ _) (Nat.le_refl _) ?_; intro v115 w6 ho7 hb hg_ hnew_; clear hg_ hnew_; rw [← Ny114.out] at ho7; have n0_ := Aside0.mk (Kd.S_lower ho7 (below_size (by repeat with_reducible first | exact HB.out | apply below_alloc | apply pw_below_drewN | apply below_drew1 | refine below_set ?_ GE113.out))); have n1_ := Aside0.mk (blk_below (g := gb113) (o := .cells #[.int .i64 a0_0, .int .i64 a0_1, .slice A0_2 l0_2.length c0_2, .slice A0_3 l0_3.length c0_3] 25 (0, 0)) (by (with_reducible repeat (first | refine blk_drewN ?_ _ | refine blk_drew ?_ | refine blk_alloc ?_ _)); exact BK113.out) hb); have n2_ := Aside0.mk (below_step (by repeat with_reducible first | exact HB.out | apply below_alloc | apply pw_below_drewN | apply below_drew1 | refine below_set ?_ GE113.out) hb); clear BK113; clear HB; have HO116 := n0_; have BK113 := n1_; have HB := n2_; clear n0_ n1_ n2_; clear hb ho7; have hcz8_0 : w6.cell? ⟨gb113, 0, none⟩ = some (.int .i64 a0_0) := (blk_cell BK113.out 0).trans rfl; have hcz8_1 : w6.cell? ⟨gb113, 1, none⟩ = some (.int .i64 a0_1) := (blk_cell BK113.out 1).trans rfl; have hcz8_2 : w6.cell? ⟨gb113, 2, none⟩ = some (.slice A0_2 l0_2.length c0_2) := (blk_cell BK113.out 2).trans rfl; have hcz8_3 : w6.cell? ⟨gb113, 3, none⟩ = some (.slice A0_3 l0_3.length c0_3) := (blk_cell BK113.out 3).trans rfl; have hfz8_0 := blk_frozen BK113.out 0; have hfz8_1 := blk_frozen BK113.out 1; have hfz8_2 := blk_frozen BK113.out 2; have hfz8_3 := blk_frozen BK113.out 3))
  go_loopg [15] k (fun kq v15 w' => ∃ (x3_1 : List (List Int)) (x15_1 : Int), v15 = .int .i64 x15_1 ∧ Aside0 (graph_Next.l0 kq x3_1 l0_3 (l0_3.length : Int) x15_1 = some r) ∧ Aside0 (kq ≤ k) ∧ Aside0 (Kd.S (Kd.slice 3 (Kd.int .i64)) 22 w' w.heap.size (fun _ => True) v115 x3_1) ∧ Aside0 (w'.heap[gb113]? = some (.cells #[.int .i64 a0_0, .int .i64 a0_1, (.slice A0_2 l0_2.length c0_2), (.slice A0_3 l0_3.length c0_3)] 25 (0, 0))) ∧ Aside0 (Below w.heap.size w w'))
  case atStart => exact ⟨(y114), (0), (by first | rfl | (simp; done) | (simp [*]; done)), H', ⟨Nat.le_refl _⟩, ⟨by (with_reducible repeat (first | apply S_alloc | apply S_drewN | apply S_drew)); exact HO116.out⟩, ⟨by (with_reducible repeat (first | refine blk_drewN ?_ _ | refine blk_drew ?_ | refine blk_alloc ?_ _)); exact BK113.out⟩, ⟨by repeat (first | (with_reducible first | exact HB.out | apply below_alloc | apply pw_below_drewN | apply below_drew1 | refine below_set ?_ GE113.out) | exact HB.out)⟩⟩
  clear H'
  try clear c2
  try clear c2b0
  try clear c2b1
  try clear p2
  try clear c3
  try clear c3b0
  try clear c3b1
  try clear hcz5_0
  try clear hcz5_1
  try clear hcz5_2
  try clear hcz5_3
  try clear hcz8_0
  try clear hcz8_1
  try clear hcz8_2
  try clear hcz8_3
  try clear hfz5_0
  try clear hfz5_1
  try clear hfz5_2
  try clear hfz5_3
  try clear hfz8_0
  try clear hfz8_1
  try clear hfz8_2
  try clear hfz8_3
  obtain ⟨x3_1, x15_1, rfl, HA, HK1, HO_3, BK113, HB⟩ := hrel
  rcases gk with _ | k1
  · exact absurd HA.out (by simp [graph_Next.l0])
  have H := HA.out
  clear HA
  simp only [graph_Next.l0] at H
  by_cases c9 : x15_1 < (l0_3.length : Int)
  rotate_left
  · rw [if_neg c9] at H
    have c9b0 : decide (x15_1 < (l0_3.length : Int)) = false := decide_eq_false c9
    clear c9
    obtain rfl := Option.some.inj H
    go_wp2
    go_ret
    exact ⟨_, by first | rfl | (simp [errW_none, errW_some] <;> rfl) | (simp [*, errW_none, errW_some] <;> rfl), by (with_reducible repeat (first | apply S_alloc | apply S_drewN | apply S_drew)); exact HO_3.out, by repeat (first | (with_reducible first | exact HB.out | apply below_alloc | apply pw_below_drewN | apply below_drew1 | refine below_set ?_ GE113.out) | exact HB.out)⟩
  rw [if_pos c9] at H
  have c9b0 : decide (x15_1 < (l0_3.length : Int)) = true := decide_eq_true c9
  clear c9
  by_cases c10 : 0 ≤ x15_1
  rotate_left
  · rw [if_neg c10] at H
    exact absurd H (by simp)
  rw [if_pos c10] at H
  have c10b0 : decide (0 ≤ x15_1) = true := decide_eq_true c10
  clear c10
  by_cases c11 : x15_1 < (l0_3.length : Int)
  rotate_left
  · rw [if_neg c11] at H
    exact absurd H (by simp)
  rw [if_pos c11] at H
  have c11b0 : decide (x15_1 < (l0_3.length : Int)) = true := decide_eq_true c11
  clear c11
  have H' := Aside0.mk H
  clear H
  have p117 : 0 ≤ (x15_1 : Int) := of_decide_eq_true (by with_reducible assumption)
  have q117 : x15_1 < (l0_3.length : Int) := of_decide_eq_true (by with_reducible assumption)
  obtain ⟨ad117, A117_0, c117_0, A117_1, c117_1, A117_4, c117_4, e117, hx117_0, hx117_1, hx117_2, hx117_3, hx117_4, hl117_0, hi117_0, hl117_1, hi117_1, hl117_4, hi117_4⟩ := at_T52 HR0_3.out x15_1 p117 q117
  cases e117
  replace hx117_0 := (HB.out.cell (World.block_lt_of_cell? w _ hx117_0)).trans hx117_0
  replace hx117_1 := (HB.out.cell (World.block_lt_of_cell? w _ hx117_1)).trans hx117_1
  replace hx117_2 := (HB.out.cell (World.block_lt_of_cell? w _ hx117_2)).trans hx117_2
  replace hx117_3 := (HB.out.cell (World.block_lt_of_cell? w _ hx117_3)).trans hx117_3
  replace hx117_4 := (HB.out.cell (World.block_lt_of_cell? w _ hx117_4)).trans hx117_4
  have HR117_0 := Aside0.mk hi117_0
  have HC117_0 := Aside0.mk hl117_0
  clear hi117_0 hl117_0
  have HR117_1 := Aside0.mk hi117_1
  have HC117_1 := Aside0.mk hl117_1
  clear hi117_1 hl117_1
  have HR117_4 := Aside0.mk hi117_4
  have HC117_4 := Aside0.mk hl117_4
  clear hi117_4 hl117_4
  replace p117 := eq_true p117
  replace q117 := eq_true q117
  go_wp2_with (first | ((with_reducible refine gate_dst (N := 5) rfl ?_); (try (refine gate_guard (by rfl) ?_; dsimp only)); refine box_event ?hg (N := 5) ?hd (cs := #[.slice none 0 0, .slice none 0 0, .int .i64 0, .int .i64 0, .slice none 0 0]) (t := 52) ?hr ?_; (case hd => rfl); (case hg => rfl); (case hr => first | (go_simp; done) | (go_simp; rfl)); intro gb118 hg w12 hbox hb; have n0_ := Aside0.mk (Kd.S_below (by (with_reducible repeat (first | apply S_alloc | apply S_drewN | apply S_drew)); exact HO_3.out) hb); have n1_ := Aside0.mk (blk_below (g := gb113) (o := .cells #[.int .i64 a0_0, .int .i64 a0_1, .slice A0_2 l0_2.length c0_2, .slice (some ad117) l0_3.length c0_3] 25 (0, 0)) (by (with_reducible repeat (first | refine blk_drewN ?_ _ | refine blk_drew ?_ | refine blk_alloc ?_ _)); exact BK113.out) hb); have n2_ := Aside0.mk (below_step (by repeat with_reducible first | exact HB.out | apply below_alloc | apply pw_below_drewN | apply below_drew1 | refine below_set ?_ GE113.out) hb); have n3_ := Aside0.mk (hbox); have n4_ := Aside0.mk ((by rw [hg]; exact (below_size (by repeat with_reducible first | exact HB.out | apply below_alloc | apply pw_below_drewN | apply below_drew1 | refine below_set ?_ GE113.out)) : w.heap.size ≤ gb118)); have n5_ := Aside0.mk ((by rw [hg]; exact (below_size (by repeat with_reducible first | exact HB.out | apply below_alloc | apply pw_below_drewN | apply below_drew1 | refine below_set ?_ GE113.out)) : w.heap.size ≤ gb118)); have n6_ := Aside0.mk ((by rw [hg]; exact Nat.ne_of_lt (blk_lt (g := gb113) (o := .cells #[.int .i64 a0_0, .int .i64 a0_1, .slice A0_2 l0_2.length c0_2, .slice (some ad117) l0_3.length c0_3] 25 (0, 0)) (by (with_reducible repeat (first | refine blk_drewN ?_ _ | refine blk_drew ?_ | refine blk_alloc ?_ _)); exact BK113.out)) : gb113 ≠ gb118)); have n7_ := Aside0.mk ((by rw [hg]; exact Nat.ne_of_gt (blk_lt (g := gb113) (o := .cells #[.int .i64 a0_0, .int .i64 a0_1, .slice A0_2 l0_2.length c0_2, .slice (some ad117) l0_3.length c0_3] 25 (0, 0)) (by (with_reducible repeat (first | refine blk_drewN ?_ _ | refine blk_drew ?_ | refine blk_alloc ?_ _)); exact BK113.out)) : gb118 ≠ gb113)); clear HO_3; clear BK113; clear HB; have HO_3 := n0_; have BK113 := n1_; have HB := n2_; have BK118 := n3_; have GW118 := n4_; have GE118 := n5_; have NB113_118 := n6_; have NB118_113 := n7_; clear n0_ n1_ n2_ n3_ n4_ n5_ n6_ n7_; clear hb hbox hg; have hnb13 := NB118_113.out; have hnc13 := NB113_118.out; have hcz14_0 : w12.cell? ⟨gb118, 0, none⟩ = some (.slice none 0 0) := (blk_cell BK118.out 0).trans rfl; have hcz14_1 : w12.cell? ⟨gb118, 1, none⟩ = some (.slice none 0 0) := (blk_cell BK118.out 1).trans rfl; have hcz14_2 : w12.cell? ⟨gb118, 2, none⟩ = some (.int .i64 0) := (blk_cell BK118.out 2).trans rfl; have hcz14_3 : w12.cell? ⟨gb118, 3, none⟩ = some (.int .i64 0) := (blk_cell BK118.out 3).trans rfl; have hcz14_4 : w12.cell? ⟨gb118, 4, none⟩ = some (.slice none 0 0) := (blk_cell BK118.out 4).trans rfl; have hfz14_0 := blk_frozen BK118.out 0; have hfz14_1 := blk_frozen BK118.out 1; have hfz14_2 := blk_frozen BK118.out 2; have hfz14_3 := blk_frozen BK118.out 3; have hfz14_4 := blk_frozen BK118.out 4))
  go_loopg [24] k1 (fun kq v24 w' => ∃ (x3_2 : List (List Int)) (x24_2 : Int), v24 = .int .i64 x24_2 ∧ Aside0 (graph_Next.l1 kq x3_2 x15_1 l0_3 (l0_3.length : Int) x15_1 ((rd_T52 l0_3 x15_1).f2.f2) (((rd_T52 l0_3 x15_1).f2.f2).length : Int) x24_2 = some r) ∧ Aside0 (kq ≤ k1) ∧ Aside0 (Kd.S (Kd.slice 3 (Kd.int .i64)) 22 w' w.heap.size (fun _ => True) v115 x3_2) ∧ Aside0 (w'.heap[gb113]? = some (.cells #[.int .i64 a0_0, .int .i64 a0_1, (.slice A0_2 l0_2.length c0_2), (.slice (some ad117) l0_3.length c0_3)] 25 (0, 0))) ∧ Aside0 (w'.heap[gb118]? = some (.cells #[(.slice A117_0 ((rd_T52 l0_3 x15_1).f0).length c117_0), (.slice A117_1 ((rd_T52 l0_3 x15_1).f1).length c117_1), .int .i64 ((rd_T52 l0_3 x15_1).f2.f0), .int .i64 ((rd_T52 l0_3 x15_1).f2.f1), (.slice A117_4 ((rd_T52 l0_3 x15_1).f2.f2).length c117_4)] 52 (0, 0))) ∧ Aside0 (Below w.heap.size w w'))
  case atStart => exact ⟨(x3_1), (0), (by first | rfl | (simp; done) | (simp [*]; done)), H', ⟨Nat.le_refl _⟩, ⟨by (with_reducible repeat (first | apply S_alloc | apply S_drewN | apply S_drew)); exact S_mono (Kd.S_far (p := ⟨gb118, 4, none⟩) (Kd.S_far (p := ⟨gb118, 3, none⟩) (Kd.S_far (p := ⟨gb118, 2, none⟩) (Kd.S_far (p := ⟨gb118, 1, none⟩) (Kd.S_far (p := ⟨gb118, 0, none⟩) (Kd.S_types HO_3.out BK118.out (by decide)) (fun _ hk => hk.2) (.slice A117_0 ((rd_T52 l0_3 x15_1).f0).length c117_0)) (fun _ hk => hk.2) (.slice A117_1 ((rd_T52 l0_3 x15_1).f1).length c117_1)) (fun _ hk => hk.2) (.int .i64 ((rd_T52 l0_3 x15_1).f2.f0))) (fun _ hk => hk.2) (.int .i64 ((rd_T52 l0_3 x15_1).f2.f1))) (fun _ hk => hk.2) (.slice A117_4 ((rd_T52 l0_3 x15_1).f2.f2).length c117_4)) (fun _ hk => trivial)⟩, ⟨by (with_reducible repeat (first | refine blk_drewN ?_ _ | refine blk_drew ?_ | refine blk_alloc ?_ _)); refine blk_far ?_ NB113_118.out _; (with_reducible repeat (first | refine blk_drewN ?_ _ | refine blk_drew ?_ | refine blk_alloc ?_ _)); refine blk_far ?_ NB113_118.out _; (with_reducible repeat (first | refine blk_drewN ?_ _ | refine blk_drew ?_ | refine blk_alloc ?_ _)); refine blk_far ?_ NB113_118.out _; (with_reducible repeat (first | refine blk_drewN ?_ _ | refine blk_drew ?_ | refine blk_alloc ?_ _)); refine blk_far ?_ NB113_118.out _; (with_reducible repeat (first | refine blk_drewN ?_ _ | refine blk_drew ?_ | refine blk_alloc ?_ _)); refine blk_far ?_ NB113_118.out _; (with_reducible repeat (first | refine blk_drewN ?_ _ | refine blk_drew ?_ | refine blk_alloc ?_ _)); exact BK113.out⟩, ⟨by (with_reducible repeat (first | refine blk_drewN ?_ _ | refine blk_drew ?_ | refine blk_alloc ?_ _)); refine blk_put (cs := #[.slice A117_0 ((rd_T52 l0_3 x15_1).f0).length c117_0, .slice A117_1 ((rd_T52 l0_3 x15_1).f1).length c117_1, .int .i64 ((rd_T52 l0_3 x15_1).f2.f0), .int .i64 ((rd_T52 l0_3 x15_1).f2.f1), .slice none 0 0]) ?_ 4 _ rfl; (with_reducible repeat (first | refine blk_drewN ?_ _ | refine blk_drew ?_ | refine blk_alloc ?_ _)); refine blk_put (cs := #[.slice A117_0 ((rd_T52 l0_3 x15_1).f0).length c117_0, .slice A117_1 ((rd_T52 l0_3 x15_1).f1).length c117_1, .int .i64 ((rd_T52 l0_3 x15_1).f2.f0), .int .i64 0, .slice none 0 0]) ?_ 3 _ rfl; (with_reducible repeat (first | refine blk_drewN ?_ _ | refine blk_drew ?_ | refine blk_alloc ?_ _)); refine blk_put (cs := #[.slice A117_0 ((rd_T52 l0_3 x15_1).f0).length c117_0, .slice A117_1 ((rd_T52 l0_3 x15_1).f1).length c117_1, .int .i64 0, .int .i64 0, .slice none 0 0]) ?_ 2 _ rfl; (with_reducible repeat (first | refine blk_drewN ?_ _ | refine blk_drew ?_ | refine blk_alloc ?_ _)); refine blk_put (cs := #[.slice A117_0 ((rd_T52 l0_3 x15_1).f0).length c117_0, .slice none 0 0, .int .i64 0, .int .i64 0, .slice none 0 0]) ?_ 1 _ rfl; (with_reducible repeat (first | refine blk_drewN ?_ _ | refine blk_drew ?_ | refine blk_alloc ?_ _)); refine blk_put (cs := #[.slice none 0 0, .slice none 0 0, .int .i64 0, .int .i64 0, .slice none 0 0]) ?_ 0 _ rfl; (with_reducible repeat (first | refine blk_drewN ?_ _ | refine blk_drew ?_ | refine blk_alloc ?_ _)); exact BK118.out⟩, ⟨by repeat (first | (with_reducible first | exact HB.out | apply below_alloc | apply pw_below_drewN | apply below_drew1 | refine below_set ?_ GE113.out | refine below_set ?_ GE118.out) | exact HB.out)⟩⟩
  clear H'
  try clear c1
  try clear p1
  try clear q1
  try clear hx1
  try clear c2
  try clear c2b0
  try clear c2b1
  try clear p2
  try clear c3
  try clear c3b0
  try clear c3b1
  try clear c9
  try clear c9b0
  try clear c10
  try clear c10b0
  try clear c11
  try clear c11b0
  try clear p11
  try clear q11
  try clear hx11
  try clear c13
  try clear hcz14_0
  try clear hcz14_1
  try clear hcz14_2
  try clear hcz14_3
  try clear hcz14_4
  try clear hcz5_0
  try clear hcz5_1
  try clear hcz5_2
  try clear hcz5_3
  try clear hcz8_0
  try clear hcz8_1
  try clear hcz8_2
  try clear hcz8_3
  try clear hfz14_0
  try clear hfz14_1
  try clear hfz14_2
  try clear hfz14_3
  try clear hfz14_4
  try clear hfz5_0
  try clear hfz5_1
  try clear hfz5_2
  try clear hfz5_3
  try clear hfz8_0
  try clear hfz8_1
  try clear hfz8_2
  try clear hfz8_3
  try clear hx117_0
  try clear hx117_1
  try clear hx117_2
  try clear hx117_3
  try clear hx117_4
  try clear p117
  try clear p2
  try clear q117
  obtain ⟨x3_2, x24_2, rfl, HA, HK2, HO_3, BK113, BK118, HB⟩ := hrel
  rcases gk with _ | k2
  · exact absurd HA.out (by simp [graph_Next.l1])
  have H := HA.out
  clear HA
  simp only [graph_Next.l1] at H
  by_cases c15 : x24_2 < (((rd_T52 l0_3 x15_1).f2.f2).length : Int)
  · rw [if_pos c15] at H
    have c15b0 : decide (x24_2 < (((rd_T52 l0_3 x15_1).f2.f2).length : Int)) = true := decide_eq_true c15
    clear c15
    by_cases c16 : 0 ≤ x24_2
    rotate_left
    · rw [if_neg c16] at H
      exact absurd H (by simp)
    rw [if_pos c16] at H
    have c16b0 : decide (0 ≤ x24_2) = true := decide_eq_true c16
    clear c16
    by_cases c17 : x24_2 < (((rd_T52 l0_3 x15_1).f2.f2).length : Int)
    rotate_left
    · rw [if_neg c17] at H
      exact absurd H (by simp)
    rw [if_pos c17] at H
    have c17b0 : decide (x24_2 < (((rd_T52 l0_3 x15_1).f2.f2).length : Int)) = true := decide_eq_true c17
    clear c17
    by_cases c18 : (rd ((rd_T52 l0_3 x15_1).f2.f2) x24_2) ≥ 0
    · rw [if_pos c18] at H
      have c18b0 : decide (0 ≤ (rd ((rd_T52 l0_3 x15_1).f2.f2) x24_2)) = true := decide_eq_true c18
      clear c18
      by_cases c19 : (rd ((rd_T52 l0_3 x15_1).f2.f2) x24_2) < (x3_2.length : Int)
      · rw [if_pos c19] at H
        have c19b0 : decide ((rd ((rd_T52 l0_3 x15_1).f2.f2) x24_2) < (x3_2.length : Int)) = true := decide_eq_true c19
        clear c19
        by_cases c20 : 0 ≤ x15_1
        rotate_left
        · rw [if_neg c20] at H
          exact absurd H (by simp)
        rw [if_pos c20] at H
        have c20b0 : decide (0 ≤ x15_1) = true := decide_eq_true c20
        clear c20
        by_cases c21 : x15_1 < (x3_2.length : Int)
        rotate_left
        · rw [if_neg c21] at H
          exact absurd H (by simp)
        rw [if_pos c21] at H
        have c21b0 : decide (x15_1 < (x3_2.length : Int)) = true := decide_eq_true c21
        clear c21
        replace H := Option.bind_eq_some_iff.mp H
        obtain ⟨t121, A220, H⟩ := H
        replace H : (if t121 = true then (graph_Next.l1 k2 x3_2 x15_1 l0_3 (l0_3.length : Int) x15_1 ((rd_T52 l0_3 x15_1).f2.f2) (((rd_T52 l0_3 x15_1).f2.f2).length : Int) (wrap64 (x24_2 + 1))) else (if (rd_L1 x3_2 x15_1).length < 17592186044416 then (graph_Next.l1 k2 (x3_2.set (x15_1 : Int).toNat ((rd_L1 x3_2 x15_1) ++ [rd ((rd_T52 l0_3 x15_1).f2.f2) x24_2])) x15_1 l0_3 (l0_3.length : Int) x15_1 ((rd_T52 l0_3 x15_1).f2.f2) (((rd_T52 l0_3 x15_1).f2.f2).length : Int) (wrap64 (x24_2 + 1))) else (none))) = some r := H
        have A22 := Aside0.mk A220
        clear A220
        by_cases c23 : t121 = true
        · subst c23
          have H1 : (graph_Next.l1 k2 x3_2 x15_1 l0_3 (l0_3.length : Int) x15_1 ((rd_T52 l0_3 x15_1).f2.f2) (((rd_T52 l0_3 x15_1).f2.f2).length : Int) (wrap64 (x24_2 + 1))) = some r := by rw [if_pos rfl] at H; exact H
          clear H
          have H := H1
          clear H1
          have H' := Aside0.mk H
          clear H
          have p119 : 0 ≤ (x24_2 : Int) := of_decide_eq_true (by with_reducible assumption)
          have q119 : x24_2 < (((rd_T52 l0_3 x15_1).f2.f2).length : Int) := of_decide_eq_true (by with_reducible assumption)
          obtain ⟨ad119, e119, hx119_0⟩ := Kd.at_int HR117_4.out x24_2 p119 q119
          cases e119
          replace hx119_0 := (HB.out.cell (World.block_lt_of_cell? w _ hx119_0)).trans hx119_0
          replace p119 := eq_true p119
          replace q119 := eq_true q119
          obtain ⟨Ao24, co24, eo24⟩ := Kd.S_slice HO_3.out
          subst eo24
          have p120 : 0 ≤ (x15_1 : Int) := of_decide_eq_true (by with_reducible assumption)
          have q120 : x15_1 < (x3_2.length : Int) := of_decide_eq_true (by with_reducible assumption)
          obtain ⟨ad120, A120_0, c120_0, e120, hx120_0, hl120_0, hi120_0⟩ := at_L1 (S_reads' HO_3.out).2.2 x15_1 p120 q120
          cases e120
          obtain ⟨ce120, hce120, hMe120, hcc120⟩ := S_get HO_3.out [] x15_1 p120 (by first | exact q120 | exact of_decide_eq_true (by with_reducible assumption) | (have e_ := (S_reads' HO_3.out).1; omega))
          obtain ⟨ve120_0, rfl, ge120_0⟩ := hMe120
          have hv120_0 := hcc120 0 _ rfl
          rw [Nat.add_zero, show ((Kd.slice 3 (Kd.int .i64))).sz = 1 from rfl, Nat.mul_one] at hv120_0
          replace hv120_0 := Option.some.inj (hv120_0.symm.trans hx120_0)
          rw [hv120_0] at ge120_0
          have HL120_0 := Aside0.mk (show Kd.R (Kd.int .i64) 3 _ _ _ _ (rd_L1 x3_2 x15_1) from ge120_0)
          clear hv120_0 ge120_0
          have HX120_0 := Aside0.mk hx120_0
          clear hcc120 hce120
          have HR120_0 := Aside0.mk hi120_0
          have HC120_0 := Aside0.mk hl120_0
          clear hi120_0 hl120_0
          replace p120 := eq_true p120
          replace q120 := eq_true q120
          go_wp2_with (first | (go_at_call 41; (with_reducible refine (slices_Contains_int_int.calls k2 _ _ (rd_L1 x3_2 x15_1) (rd ((rd_T52 l0_3 x15_1).f2.f2) x24_2) true _ ?side1 ?side2 A22.out).mono ?_); (case side1 => repeat (first | exact (by repeat with_reducible first | exact HR120_0.out | refine C_alloc ?_ _ | refine C_drewN ?_ _ | refine C_drew ?_) | (with_reducible refine C_alloc ?_ _) | (with_reducible refine C_drewN ?_ _) | (with_reducible refine C_drew ?_))); (case side2 => exact HC120_0.out); rintro e w' ⟨rfl, ⟨nd, rfl⟩⟩))
          go_roundg k2
          case measure => have := HK1.out; have := HK2.out; omega
          case rel => exact ⟨(x3_2), (wrap64 (x24_2 + 1)), (by first | rfl | (simp; done) | (simp [*]; done)), H', ⟨by have := HK1.out; have := HK2.out; omega⟩, ⟨by (with_reducible repeat (first | apply S_alloc | apply S_drewN | apply S_drew)); exact HO_3.out⟩, ⟨by (with_reducible repeat (first | refine blk_drewN ?_ _ | refine blk_drew ?_ | refine blk_alloc ?_ _)); exact BK113.out⟩, ⟨by (with_reducible repeat (first | refine blk_drewN ?_ _ | refine blk_drew ?_ | refine blk_alloc ?_ _)); exact BK118.out⟩, ⟨by repeat (first | (with_reducible first | exact HB.out | apply below_alloc | apply pw_below_drewN | apply below_drew1 | refine below_set ?_ GE113.out | refine below_set ?_ GE118.out) | exact HB.out)⟩⟩
        replace c23 := Bool.eq_false_iff.mpr c23
        subst c23
        have H1 : (if (rd_L1 x3_2 x15_1).length < 17592186044416 then (graph_Next.l1 k2 (x3_2.set (x15_1 : Int).toNat ((rd_L1 x3_2 x15_1) ++ [rd ((rd_T52 l0_3 x15_1).f2.f2) x24_2])) x15_1 l0_3 (l0_3.length : Int) x15_1 ((rd_T52 l0_3 x15_1).f2.f2) (((rd_T52 l0_3 x15_1).f2.f2).length : Int) (wrap64 (x24_2 + 1))) else (none)) = some r := by rw [if_neg (show ¬ (false = true) by decide)] at H; exact H
        clear H
        have H := H1
        clear H1
        by_cases c25 : (rd_L1 x3_2 x15_1).length < 17592186044416
        rotate_left
        · rw [if_neg c25] at H
          exact absurd H (by simp)
        rw [if_pos c25] at H
        have LMc25 := Aside0.mk c25
        clear c25
        obtain ⟨y123, hy123⟩ : ∃ y_ : List Int, y_ = ((rd_L1 x3_2 x15_1) ++ [rd ((rd_T52 l0_3 x15_1).f2.f2) x24_2]) := ⟨_, rfl⟩
        replace H : (graph_Next.l1 k2 (x3_2.set (x15_1 : Int).toNat y123) x15_1 l0_3 (l0_3.length : Int) x15_1 ((rd_T52 l0_3 x15_1).f2.f2) (((rd_T52 l0_3 x15_1).f2.f2).length : Int) (wrap64 (x24_2 + 1))) = some r := by first | (rw [hy123]; with_reducible exact H) | (have H2_ := (Option.bind_some _ _).symm.trans H; rw [hy123]; with_reducible exact H2_) | exact H
        have Ny123 := Aside0.mk hy123
        clear hy123
        obtain ⟨y126, hy126⟩ : ∃ y_ : List (List Int), y_ = (x3_2.set (x15_1 : Int).toNat y123) := ⟨_, rfl⟩
        replace H : (graph_Next.l1 k2 y126 x15_1 l0_3 (l0_3.length : Int) x15_1 ((rd_T52 l0_3 x15_1).f2.f2) (((rd_T52 l0_3 x15_1).f2.f2).length : Int) (wrap64 (x24_2 + 1))) = some r := by first | (rw [hy126]; with_reducible exact H) | (have H2_ := (Option.bind_some _ _).symm.trans H; rw [hy126]; with_reducible exact H2_) | exact H
        have Ny126 := Aside0.mk hy126
        clear hy126
        have H' := Aside0.mk H
        clear H
        have p119 : 0 ≤ (x24_2 : Int) := of_decide_eq_true (by with_reducible assumption)
        have q119 : x24_2 < (((rd_T52 l0_3 x15_1).f2.f2).length : Int) := of_decide_eq_true (by with_reducible assumption)
        obtain ⟨ad119, e119, hx119_0⟩ := Kd.at_int HR117_4.out x24_2 p119 q119
        cases e119
        replace hx119_0 := (HB.out.cell (World.block_lt_of_cell? w _ hx119_0)).trans hx119_0
        replace p119 := eq_true p119
        replace q119 := eq_true q119
        obtain ⟨Ao27, co27, eo27⟩ := Kd.S_slice HO_3.out
        subst eo27
        have p120 : 0 ≤ (x15_1 : Int) := of_decide_eq_true (by with_reducible assumption)
        have q120 : x15_1 < (x3_2.length : Int) := of_decide_eq_true (by with_reducible assumption)
        obtain ⟨ad120, A120_0, c120_0, e120, hx120_0, hl120_0, hi120_0⟩ := at_L1 (S_reads' HO_3.out).2.2 x15_1 p120 q120
        cases e120
        obtain ⟨ce120, hce120, hMe120, hcc120⟩ := S_get HO_3.out [] x15_1 p120 (by first | exact q120 | exact of_decide_eq_true (by with_reducible assumption) | (have e_ := (S_reads' HO_3.out).1; omega))
        obtain ⟨ve120_0, rfl, ge120_0⟩ := hMe120
        have hv120_0 := hcc120 0 _ rfl
        rw [Nat.add_zero, show ((Kd.slice 3 (Kd.int .i64))).sz = 1 from rfl, Nat.mul_one] at hv120_0
        replace hv120_0 := Option.some.inj (hv120_0.symm.trans hx120_0)
        rw [hv120_0] at ge120_0
        have HL120_0 := Aside0.mk (show Kd.R (Kd.int .i64) 3 _ _ _ _ (rd_L1 x3_2 x15_1) from ge120_0)
        clear hv120_0 ge120_0
        have HX120_0 := Aside0.mk hx120_0
        clear hcc120 hce120
        have HR120_0 := Aside0.mk hi120_0
        have HC120_0 := Aside0.mk hl120_0
        clear hi120_0 hl120_0
        replace p120 := eq_true p120
        replace q120 := eq_true q120
        go_wp2_with (first | (go_at_call 41; (with_reducible refine (slices_Contains_int_int.calls k2 _ _ (rd_L1 x3_2 x15_1) (rd ((rd_T52 l0_3 x15_1).f2.f2) x24_2) false _ ?side1 ?side2 A22.out).mono ?_); (case side1 => repeat (first | exact (by repeat with_reducible first | exact HR120_0.out | refine C_alloc ?_ _ | refine C_drewN ?_ _ | refine C_drew ?_) | (with_reducible refine C_alloc ?_ _) | (with_reducible refine C_drewN ?_ _) | (with_reducible refine C_drew ?_))); (case side2 => exact HC120_0.out); rintro e w' ⟨rfl, ⟨nd, rfl⟩⟩; (try (rw [drewN_self wr]; generalize hq_ : World.drewN wr _ = wr; have hx120_0 : wr.cell? (ad120.add x15_1.toNat) = some (.slice A120_0 (rd_L1 x3_2 x15_1).length c120_0) := (by rw [← hq_]; simpa using hx120_0); have n0_ : Aside0 (Kd.R (Kd.int .i64) 3 wr w.heap.size (fun k_ => some k_ ≠ (.slice (some ad120) x3_2.length co27 : Value).ownBlock) (.slice A120_0 (rd_L1 x3_2 x15_1).length c120_0) (rd_L1 x3_2 x15_1)) := ⟨by rw [← hq_]; exact (by (with_reducible repeat (first | apply R_alloc | apply R_drewN | apply R_drew)); exact R_mono HL120_0.out (fun _ hk => hk.2))⟩; have n1_ : Aside0 (Kd.S (Kd.slice 3 (Kd.int .i64)) 22 wr w.heap.size (fun _ => True) (.slice (some ad120) x3_2.length co27) x3_2) := ⟨by rw [← hq_]; exact (by (with_reducible repeat (first | apply S_alloc | apply S_drewN | apply S_drew)); exact HO_3.out)⟩; have n2_ : Aside0 (wr.heap[gb113]? = some (.cells #[.int .i64 a0_0, .int .i64 a0_1, .slice A0_2 l0_2.length c0_2, .slice (some ad117) l0_3.length c0_3] 25 (0, 0))) := ⟨by rw [← hq_]; exact (by (with_reducible repeat (first | refine blk_drewN ?_ _ | refine blk_drew ?_ | refine blk_alloc ?_ _)); exact BK113.out)⟩; have n3_ : Aside0 (wr.heap[gb118]? = some (.cells #[.slice A117_0 ((rd_T52 l0_3 x15_1).f0).length c117_0, .slice A117_1 ((rd_T52 l0_3 x15_1).f1).length c117_1, .int .i64 ((rd_T52 l0_3 x15_1).f2.f0), .int .i64 ((rd_T52 l0_3 x15_1).f2.f1), .slice (some ad119) ((rd_T52 l0_3 x15_1).f2.f2).length c117_4] 52 (0, 0))) := ⟨by rw [← hq_]; exact (by (with_reducible repeat (first | refine blk_drewN ?_ _ | refine blk_drew ?_ | refine blk_alloc ?_ _)); exact BK118.out)⟩; have n4_ : Aside0 (Below w.heap.size w wr) := ⟨by rw [← hq_]; exact (by repeat with_reducible first | exact HB.out | apply below_alloc | apply pw_below_drewN | apply below_drew1 | refine below_set ?_ GE113.out | refine below_set ?_ GE118.out)⟩; have n5_ : Aside0 (Kd.C (Kd.int .i64) wr A120_0 (rd_L1 x3_2 x15_1).length (rd_L1 x3_2 x15_1)) := ⟨by rw [← hq_]; exact (by repeat with_reducible first | exact HR120_0.out | refine C_alloc ?_ _ | refine C_drewN ?_ _ | refine C_drew ?_)⟩; clear HL120_0 HO_3 BK113 BK118 HB HR120_0 hq_; have HL120_0 := n0_; have HO_3 := n1_; have BK113 := n2_; have BK118 := n3_; have HB := n4_; have HR120_0 := n5_; clear n0_ n1_ n2_ n3_ n4_ n5_)); have p122 : 0 ≤ (x15_1 : Int) := of_decide_eq_true (by with_reducible assumption); have q122 : x15_1 < (x3_2.length : Int) := of_decide_eq_true (by with_reducible assumption); obtain ⟨ad122, A122_0, c122_0, e122, hx122_0, hl122_0, hi122_0⟩ := at_L1 (S_reads' HO_3.out).2.2 x15_1 p122 q122; obtain rfl : ad120 = ad122 := (by injection e122); obtain ⟨ce122, hce122, hMe122, hcc122⟩ := S_get HO_3.out [] x15_1 p122 (by first | exact q122 | exact of_decide_eq_true (by with_reducible assumption) | (have e_ := (S_reads' HO_3.out).1; omega)); obtain ⟨ve122_0, rfl, ge122_0⟩ := hMe122; have hv122_0 := hcc122 0 _ rfl; rw [Nat.add_zero, show ((Kd.slice 3 (Kd.int .i64))).sz = 1 from rfl, Nat.mul_one] at hv122_0; replace hv122_0 := Option.some.inj (hv122_0.symm.trans hx122_0); rw [hv122_0] at ge122_0; have HL122_0 := Aside0.mk (show Kd.R (Kd.int .i64) 3 _ _ _ _ (rd_L1 x3_2 x15_1) from ge122_0); clear hv122_0 ge122_0; have HX122_0 := Aside0.mk hx122_0; clear hcc122 hce122; have HR122_0 := Aside0.mk hi122_0; have HC122_0 := Aside0.mk hl122_0; clear hi122_0 hl122_0; replace p122 := eq_true p122; replace q122 := eq_true q122; have ea_ := Option.some.inj (hx120_0.symm.trans hx122_0); injection ea_ with ea_ en_ ec_; subst ea_; subst ec_; clear en_; obtain ⟨go28, co28, eo28, gb28, gl28, cl28, HG28⟩ := Kd.S_form HO_3.out (by have h_ : (x15_1 : Int) < ((x3_2.length : Int) : Int) := of_decide_eq_true (by with_reducible assumption); have h2_ : 0 ≤ (x15_1 : Int) := (of_decide_eq_true (by with_reducible assumption)); omega); (first | cases eo28 | (injection eo28 with ea_ en_ ec_; (first | subst ea_ | (injection ea_ with ea_; subst ea_)); subst ec_; clear en_)); have GB28 := Aside0.mk gb28; have GG28 := Aside0.mk HG28; clear gb28 gl28 HG28; (first | simp only [add_plain] at hx120_0 | skip); (first | simp only [add_plain] at hx122_0 | skip); obtain ⟨oki28, ce28, hcl28, hM28, hcc28, _, _, hH28⟩ := Kd.S_elem HO_3.out [] (x15_1 : Int) (of_decide_eq_true (by with_reducible assumption)) (by have h_ : (x15_1 : Int) < ((x3_2.length : Int) : Int) := of_decide_eq_true (by with_reducible assumption); first | exact h_ | (have e_ := (S_reads' HO_3.out).1; omega) | simpa using h_); obtain ⟨ve28_0, rfl, ge28_0⟩ := hM28; have hv28 := hcc28 0 _ rfl; have hX28 := HX122_0.out; (try simp only [add_plain] at hX28); (try simp only [Nat.add_zero] at hv28); (try rw [show ((Kd.slice 3 (Kd.int .i64))).sz = 1 from rfl, Nat.mul_one] at hv28); replace hv28 := Option.some.inj (hv28.symm.trans hX28); subst hv28; clear hX28 hcc28 hcl28; have UU28 := Aside0.mk (show Kd.R (Kd.int .i64) 3 _ w.heap.size oki28 (.slice A120_0 (rd_L1 x3_2 x15_1).length c120_0) (rd_L1 x3_2 x15_1) from ge28_0); have HH28 := Aside0.mk hH28; have HN28 := Aside0.mk (S_reads' HO_3.out).1; clear hH28 ge28_0) | ((with_reducible refine gate_builtin (b := .append) (xs := #[.tmp 50, .tmp 52]) rfl ?_); (try (refine gate_guard (by rfl) ?_; dsimp only)); at_builtin; refine Kd.R_append (Kd.int .i64) (w0 := w) w.heap.size rfl (.tmp 50) (.tmp 52) 22 3 (.int .i64 0) 8 rfl Try.underlying22 info3 rfl (by decide) (by omega) (.slice A120_0 (rd_L1 x3_2 x15_1).length c120_0) (rd_L1 x3_2 x15_1) (rd ((rd_T52 l0_3 x15_1).f2.f2) x24_2) [.int .i64 (rd ((rd_T52 l0_3 x15_1).f2.f2) x24_2)] (fun k_ => oki28 k_ ∨ ((fun _ => True)) k_ ∧ wr.heap.size ≤ k_) (fun _ => False) rfl rfl ?aP (fun _ hk => hk.elim) ?aF ?aO ?aB ?aS ?aL ?_; (case aP => exact rfl); (case aB => exact (by repeat with_reducible first | exact HB.out | apply below_alloc | apply pw_below_drewN | apply below_drew1 | refine below_set ?_ GE113.out | refine below_set ?_ GE118.out)); (case aF => exact (fun k_ hk => .inr ⟨trivial, hk⟩)); (case aO => exact (by (with_reducible repeat (first | apply R_alloc | apply R_drewN | apply R_drew)); exact R_mono UU28.out (fun _ hk => .inl hk))); (case aS => exact (below_size (by repeat with_reducible first | exact HB.out | apply below_alloc | apply pw_below_drewN | apply below_drew1 | refine below_set ?_ GE113.out | refine below_set ?_ GE118.out))); (case aL => have := LMc25.out; omega); intro v124 w29 ho hb hg hat; rw [← Ny123.out] at ho; have n0_ := Aside0.mk (blk_grown (g := gb113) (o := .cells #[.int .i64 a0_0, .int .i64 a0_1, .slice A0_2 l0_2.length c0_2, .slice (some ad117) l0_3.length c0_3] 25 (0, 0)) (by (with_reducible repeat (first | refine blk_drewN ?_ _ | refine blk_drew ?_ | refine blk_alloc ?_ _)); exact BK113.out) hg (Kd.R_ne HL122_0.out BK113.out (by decide))); have n1_ := Aside0.mk (blk_grown (g := gb118) (o := .cells #[.slice A117_0 ((rd_T52 l0_3 x15_1).f0).length c117_0, .slice A117_1 ((rd_T52 l0_3 x15_1).f1).length c117_1, .int .i64 ((rd_T52 l0_3 x15_1).f2.f0), .int .i64 ((rd_T52 l0_3 x15_1).f2.f1), .slice (some ad119) ((rd_T52 l0_3 x15_1).f2.f2).length c117_4] 52 (0, 0)) (by (with_reducible repeat (first | refine blk_drewN ?_ _ | refine blk_drew ?_ | refine blk_alloc ?_ _)); exact BK118.out) hg (Kd.R_ne HL122_0.out BK118.out (by decide))); have n2_ := Aside0.mk (hb); have n3_ := Aside0.mk (Kd.H_grown (Kd.H_widen (by repeat (first | exact HH28.out | refine Kd.H_alloc ?_ _ | refine Kd.H_drewN ?_ _ | refine Kd.H_drew ?_))) hg (fun k_ e_ => .inl (UU28.out.1 k_ e_))); have n4_ := Aside0.mk (ho); clear BK113; clear BK118; clear HB; clear HH28; clear HO_3; clear UU28; clear HL120_0; clear HL122_0; have BK113 := n0_; have BK118 := n1_; have HB := n2_; have HH28 := n3_; have HO125 := n4_; clear n0_ n1_ n2_ n3_ n4_; clear ho hb hg hat; have p26 : 0 ≤ (x15_1 : Int) := of_decide_eq_true (by with_reducible assumption); have q26 : (x15_1 : Int) < ((x3_2.length : Int) : Int) := of_decide_eq_true (by with_reducible assumption); replace p26 := eq_true p26; replace q26 := eq_true q26; obtain ⟨Ao32, co32, eo32⟩ := Kd.R_slice HO125.out; subst eo32; obtain ⟨_, _, hraw30, _, _, hcc30, _⟩ := Kd.H_raw HH28.out (of_decide_eq_true (by with_reducible assumption)) (by have h_ : (x15_1 : Int) < ((x3_2.length : Int) : Int) := of_decide_eq_true (by with_reducible assumption); first | exact h_ | (have e_ := (HN28.out); omega) | simpa using h_); obtain ⟨_, hfr30⟩ := Kd.H_at HH28.out (of_decide_eq_true (by with_reducible assumption)) (by have h_ : (x15_1 : Int) < ((x3_2.length : Int) : Int) := of_decide_eq_true (by with_reducible assumption); first | exact h_ | (have e_ := (HN28.out); omega) | simpa using h_); have hx30_0 := hcc30 0 _ rfl; have hf30_0 := hfr30 0; (try simp only [Nat.add_zero] at hx30_0 hf30_0); (try rw [show ((Kd.slice 3 (Kd.int .i64))).sz = 1 from rfl, Nat.mul_one] at hx30_0); (try rw [show ((Kd.slice 3 (Kd.int .i64))).sz = 1 from rfl, Nat.mul_one] at hf30_0); have HP30 := Kd.S_seg0 HH28.out (of_decide_eq_true (by with_reducible assumption)) (by have h_ : (x15_1 : Int) < ((x3_2.length : Int) : Int) := of_decide_eq_true (by with_reducible assumption); first | exact h_ | (have e_ := (HN28.out); omega) | simpa using h_) (seg := [.slice Ao32 y123.length co32]) (j := 0) (show 1 ≤ 1 from by decide) (x' := y123) (Kd.M_row HO125.out) (fun _ hk => hk); (try simp only [show ((Kd.slice 3 (Kd.int .i64))).sz = 1 from rfl, Nat.mul_one, Nat.add_zero] at HP30); clear hcc30 hfr30) | ((with_reducible refine gate_store (t := 22) (p := 54) rfl ?_); refine store_event (t := 22) (p := 54) (v := ?vo_w31) (w1 := (w29.setCell ⟨go28, (x15_1 : Int).toNat, none⟩ (.slice Ao32 y123.length co32))) ?hg ?ho ?hn ?hr ?_; (case ho => rfl); (case hg => rfl); (case hn => rfl); (case hr => first | (go_simp; done) | (go_simp; rfl)); intro w31 hw; have hg : w29.grownBy w31 (some go28) := (by rw [hw]; exact HP30.2); have hp_ : Kd.S (Kd.slice 3 (Kd.int .i64)) 22 w31 w.heap.size (fun _ => True) (.slice (some ⟨go28, 0, none⟩) x3_2.length co27) y126 := (by rw [hw, Ny126.out]; exact HP30.1); clear HP30; have n0_ := Aside0.mk (blk_grown (g := gb113) (o := .cells #[.int .i64 a0_0, .int .i64 a0_1, .slice A0_2 l0_2.length c0_2, .slice (some ad117) l0_3.length c0_3] 25 (0, 0)) (by (with_reducible repeat (first | refine blk_drewN ?_ _ | refine blk_drew ?_ | refine blk_alloc ?_ _)); exact BK113.out) hg (Kd.R_ne hraw30 BK113.out (by decide))); have n1_ := Aside0.mk (blk_grown (g := gb118) (o := .cells #[.slice A117_0 ((rd_T52 l0_3 x15_1).f0).length c117_0, .slice A117_1 ((rd_T52 l0_3 x15_1).f1).length c117_1, .int .i64 ((rd_T52 l0_3 x15_1).f2.f0), .int .i64 ((rd_T52 l0_3 x15_1).f2.f1), .slice (some ad119) ((rd_T52 l0_3 x15_1).f2.f2).length c117_4] 52 (0, 0)) (by (with_reducible repeat (first | refine blk_drewN ?_ _ | refine blk_drew ?_ | refine blk_alloc ?_ _)); exact BK118.out) hg (Kd.R_ne hraw30 BK118.out (by decide))); have n2_ := Aside0.mk ((by rw [hw]; exact below_set HB.out GB28.out : Below w.heap.size w w31)); have n3_ := Aside0.mk (hp_); clear BK113; clear BK118; clear HB; clear HO125; clear HH28; have BK113 := n0_; have BK118 := n1_; have HB := n2_; have HO_3 := n3_; clear n0_ n1_ n2_ n3_; clear hg hw hp_ hraw30))
        go_roundg k2
        case measure => have := HK1.out; have := HK2.out; omega
        case rel => exact ⟨(y126), (wrap64 (x24_2 + 1)), (by first | rfl | (simp; done) | (simp [*]; done)), H', ⟨by have := HK1.out; have := HK2.out; omega⟩, ⟨by (with_reducible repeat (first | apply S_alloc | apply S_drewN | apply S_drew)); exact HO_3.out⟩, ⟨by (with_reducible repeat (first | refine blk_drewN ?_ _ | refine blk_drew ?_ | refine blk_alloc ?_ _)); exact BK113.out⟩, ⟨by (with_reducible repeat (first | refine blk_drewN ?_ _ | refine blk_drew ?_ | refine blk_alloc ?_ _)); exact BK118.out⟩, ⟨by repeat (first | (with_reducible first | exact HB.out | apply below_alloc | apply pw_below_drewN | apply below_drew1 | refine below_set ?_ GE113.out | refine below_set ?_ GE118.out) | exact HB.out)⟩⟩
      rw [if_neg c19] at H
      have c19b0 : decide ((rd ((rd_T52 l0_3 x15_1).f2.f2) x24_2) < (x3_2.length : Int)) = false := decide_eq_false c19
      clear c19
      have H' := Aside0.mk H
      clear H
      have p119 : 0 ≤ (x24_2 : Int) := of_decide_eq_true (by with_reducible assumption)
      have q119 : x24_2 < (((rd_T52 l0_3 x15_1).f2.f2).length : Int) := of_decide_eq_true (by with_reducible assumption)
      obtain ⟨ad119, e119, hx119_0⟩ := Kd.at_int HR117_4.out x24_2 p119 q119
      cases e119
      replace hx119_0 := (HB.out.cell (World.block_lt_of_cell? w _ hx119_0)).trans hx119_0
      replace p119 := eq_true p119
      replace q119 := eq_true q119
      obtain ⟨Ao33, co33, eo33⟩ := Kd.S_slice HO_3.out
      subst eo33
      go_wp2
      go_roundg k2
      case measure => have := HK1.out; have := HK2.out; omega
      case rel => exact ⟨(x3_2), (wrap64 (x24_2 + 1)), (by first | rfl | (simp; done) | (simp [*]; done)), H', ⟨by have := HK1.out; have := HK2.out; omega⟩, ⟨by (with_reducible repeat (first | apply S_alloc | apply S_drewN | apply S_drew)); exact HO_3.out⟩, ⟨by (with_reducible repeat (first | refine blk_drewN ?_ _ | refine blk_drew ?_ | refine blk_alloc ?_ _)); exact BK113.out⟩, ⟨by (with_reducible repeat (first | refine blk_drewN ?_ _ | refine blk_drew ?_ | refine blk_alloc ?_ _)); exact BK118.out⟩, ⟨by repeat (first | (with_reducible first | exact HB.out | apply below_alloc | apply pw_below_drewN | apply below_drew1 | refine below_set ?_ GE113.out | refine below_set ?_ GE118.out) | exact HB.out)⟩⟩
    rw [if_neg c18] at H
    have c18b0 : decide (0 ≤ (rd ((rd_T52 l0_3 x15_1).f2.f2) x24_2)) = false := decide_eq_false c18
    clear c18
    have H' := Aside0.mk H
    clear H
    have p119 : 0 ≤ (x24_2 : Int) := of_decide_eq_true (by with_reducible assumption)
    have q119 : x24_2 < (((rd_T52 l0_3 x15_1).f2.f2).length : Int) := of_decide_eq_true (by with_reducible assumption)
    obtain ⟨ad119, e119, hx119_0⟩ := Kd.at_int HR117_4.out x24_2 p119 q119
    cases e119
    replace hx119_0 := (HB.out.cell (World.block_lt_of_cell? w _ hx119_0)).trans hx119_0
    replace p119 := eq_true p119
    replace q119 := eq_true q119
    go_wp2
    go_roundg k2
    case measure => have := HK1.out; have := HK2.out; omega
    case rel => exact ⟨(x3_2), (wrap64 (x24_2 + 1)), (by first | rfl | (simp; done) | (simp [*]; done)), H', ⟨by have := HK1.out; have := HK2.out; omega⟩, ⟨by (with_reducible repeat (first | apply S_alloc | apply S_drewN | apply S_drew)); exact HO_3.out⟩, ⟨by (with_reducible repeat (first | refine blk_drewN ?_ _ | refine blk_drew ?_ | refine blk_alloc ?_ _)); exact BK113.out⟩, ⟨by (with_reducible repeat (first | refine blk_drewN ?_ _ | refine blk_drew ?_ | refine blk_alloc ?_ _)); exact BK118.out⟩, ⟨by repeat (first | (with_reducible first | exact HB.out | apply below_alloc | apply pw_below_drewN | apply below_drew1 | refine below_set ?_ GE113.out | refine below_set ?_ GE118.out) | exact HB.out)⟩⟩
  rw [if_neg c15] at H
  have c15b0 : decide (x24_2 < (((rd_T52 l0_3 x15_1).f2.f2).length : Int)) = false := decide_eq_false c15
  clear c15
  have H' := Aside0.mk H
  clear H
  go_wp2
  go_roundg k2
  case measure => have := HK1.out; have := HK2.out; omega
  case rel => exact ⟨(x3_2), (wrap64 (x15_1 + 1)), (by first | rfl | (simp; done) | (simp [*]; done)), H', ⟨by have := HK1.out; have := HK2.out; omega⟩, ⟨by (with_reducible repeat (first | apply S_alloc | apply S_drewN | apply S_drew)); exact HO_3.out⟩, ⟨by (with_reducible repeat (first | refine blk_drewN ?_ _ | refine blk_drew ?_ | refine blk_alloc ?_ _)); exact BK113.out⟩, ⟨by repeat (first | (with_reducible first | exact HB.out | apply below_alloc | apply pw_below_drewN | apply below_drew1 | refine below_set ?_ GE113.out | refine below_set ?_ GE118.out) | exact HB.out)⟩⟩/-! ### slices_Reverse_int_int: function 45 -/
def slices_Reverse_int_int.l0 : Nat → List Int → Int → Int → Option (List Int)
  | 0, _, _, _ => none
  | k + 1, x0, x2, x3 => if x2 < x3 then (if 0 ≤ x3 then (if x3 < (x0.length : Int) then (if 0 ≤ x2 then (if x2 < (x0.length : Int) then (slices_Reverse_int_int.l0 k ((x0.set (x2 : Int).toNat (rd x0 x3)).set (x3 : Int).toNat (rd x0 x2)) (wrap64 (x2 + 1)) (wrap64 (x3 - 1))) else (none)) else (none)) else (none)) else (none)) else (some x0)
def slices_Reverse_int_int.f (k : Nat) (l0 : List Int) : Option (List Int) := slices_Reverse_int_int.l0 k l0 0 (wrap64 ((l0.length : Int) - 1))
theorem slices_Reverse_int_int.mono_l : ∀ k, (∀ y0 y1 y2, LeO (slices_Reverse_int_int.l0 k y0 y1 y2) (slices_Reverse_int_int.l0 (k + 1) y0 y1 y2))
  | 0 => fun _ _ _ r h => by simp [slices_Reverse_int_int.l0] at h
  | k + 1 => by
    have ih0 := slices_Reverse_int_int.mono_l k
    · intro y0 y1 y2
      unfold slices_Reverse_int_int.l0
      repeat' first
      | (with_reducible exact ih0 _ _ _)
      | (with_reducible exact LeO.refl _)
      | (with_reducible exact LeO.none _)
      | (with_reducible refine LeO.ite ?_ ?_)
      | (with_reducible refine LeO.bind ?_ (fun _ => ?_))
      | exact ih0 _ _ _
      | exact LeO.none _
      | refine LeO.ite ?_ ?_
      | refine LeO.bind ?_ (fun _ => ?_)
theorem slices_Reverse_int_int.mono : ∀ a0 k, LeO (slices_Reverse_int_int.f k a0) (slices_Reverse_int_int.f (k + 1) a0) := by
  intro a0 k
  have ih0 := slices_Reverse_int_int.mono_l k
  unfold slices_Reverse_int_int.f
  repeat' first
      | (with_reducible exact ih0 _ _ _)
      | (with_reducible exact LeO.refl _)
      | (with_reducible exact LeO.none _)
      | (with_reducible refine LeO.ite ?_ ?_)
      | (with_reducible refine LeO.bind ?_ (fun _ => ?_))
      | exact ih0 _ _ _
      | exact LeO.none _
      | refine LeO.ite ?_ ?_
      | refine LeO.bind ?_ (fun _ => ?_)
def slices_Reverse_int_int.T3 : Bool × List (List Nat × List Nat) := (true, [([], []), ([], []), ([], []), ([], []), ([], []), ([], []), ([4, 5], [4, 5]), ([6], [6]), ([], []), ([], []), ([8, 9], [8, 9]), ([10], [10]), ([0, 1, 0, 1, 4, 5, 6, 7, 11], [0, 1]), ([12, 7, 0, 1, 4, 5, 6, 7, 11], [7, 12]), ([2, 3, 0, 1, 2, 3, 4, 5, 6, 7, 8, 9, 10, 11, 12, 13], [2, 3]), ([14, 11, 13, 0, 1, 2, 3, 4, 5, 6, 7, 8, 9, 10, 11, 12, 13], [11, 14])])
def slices_Reverse_int_int.B3 : List Nat := [0, 0, 0, 0, 0, 0, 48, 112, 0, 0, 768, 1792, 4083, 8179, 16383, 32767]
theorem slices_Reverse_int_int.tab3 : rtab .any (opsOf Try.f45 3) = slices_Reverse_int_int.T3 := by kernel_rfl
theorem slices_Reverse_int_int.bits3 : waitsOk slices_Reverse_int_int.T3.2 slices_Reverse_int_int.B3 = true := by kernel_rfl
set_option maxHeartbeats 8000000 in
set_option maxRecDepth 100000 in
theorem slices_Reverse_int_int.calls (k : Nat) (P0_ : Nat → Prop) (u9000_ : Value) (l0 : List Int) (r : List Int) (w0 w : World) (hB : Below w0.heap.size w0 w) (ho0 : Kd.R (Kd.int .i64) 3 w w0.heap.size P0_ u9000_ l0) (h : slices_Reverse_int_int.f k l0 = some r) :
    Calls Try.prog 45 #[u9000_] w fun e w' => e = .returned (.tuple #[]) ∧ Kd.R (Kd.int .i64) 3 w' w0.heap.size (fun k_ => (P0_ k_ ∨ w.heap.size ≤ k_)) u9000_ r ∧ Below w0.heap.size w0 w' ∧ Kept w w' (fun k_ => P0_ k_) := by
  have HO0 := Aside0.mk (show Kd.R (Kd.int .i64) 3 w w0.heap.size (fun k_ => (P0_ k_ ∨ w.heap.size ≤ k_)) u9000_ l0 from R_mono ho0 (fun k_ hk => (.inl hk)))
  have HK := Aside0.mk (Kept.refl w (fun k_ => P0_ k_))
  have HW0 := Aside0.mk hB.size
  have HB := Aside0.mk hB
  clear hB
  have H : (slices_Reverse_int_int.l0 k l0 0 (wrap64 ((l0.length : Int) - 1))) = some r := h
  clear h
  have H' := Aside0.mk H
  clear H
  obtain ⟨Ao2, co2, eo2⟩ := Kd.R_slice HO0.out
  subst eo2
  go_enter Try.func45, Try.ntmps45
  go_wp2
  go_loopg [2, 3] k (fun kq v2 v3 w' => ∃ (x0_1 : List Int) (x2_1 : Int) (x3_1 : Int), v2 = .int .i64 x2_1 ∧ v3 = .int .i64 x3_1 ∧ Aside0 (slices_Reverse_int_int.l0 kq x0_1 x2_1 x3_1 = some r) ∧ Aside0 (kq ≤ k) ∧ Aside0 (Kd.R (Kd.int .i64) 3 w' w0.heap.size (fun k_ => (P0_ k_ ∨ w.heap.size ≤ k_)) (.slice Ao2 l0.length co2) x0_1) ∧ Aside0 (Kept w w' (fun k_ => P0_ k_)) ∧ Aside0 (Below w0.heap.size w0 w'))
  case atStart => exact ⟨(l0), (0), (wrap64 ((l0.length : Int) - 1)), (by first | rfl | (simp; done) | (simp [*]; done)), (by first | rfl | (simp; done) | (simp [*]; done)), H', ⟨Nat.le_refl _⟩, ⟨by (with_reducible repeat (first | apply R_alloc | apply R_drewN | apply R_drew)); exact HO0.out⟩, ⟨by repeat (first | (with_reducible first | exact HK.out | apply Kept.alloc | apply Kept.drewN | apply Kept.drew) | exact HK.out)⟩, ⟨by repeat (first | (with_reducible first | exact HB.out | apply below_alloc | apply pw_below_drewN | apply below_drew1) | exact HB.out)⟩⟩
  clear H'
  try clear p2
  obtain ⟨x0_1, x2_1, x3_1, rfl, rfl, HA, HK1, HO_0, HK, HB⟩ := hrel
  have hl0_1 := (R_reads' HO_0.out).1
  rw [hl0_1] at HO_0
  (try simp only [hl0_1])
  rcases gk with _ | k1
  · exact absurd HA.out (by simp [slices_Reverse_int_int.l0])
  have H := HA.out
  clear HA
  simp only [slices_Reverse_int_int.l0] at H
  by_cases c3 : x2_1 < x3_1
  · rw [if_pos c3] at H
    have c3b0 : decide (x2_1 < x3_1) = true := decide_eq_true c3
    clear c3
    by_cases c4 : 0 ≤ x3_1
    rotate_left
    · rw [if_neg c4] at H
      exact absurd H (by simp)
    rw [if_pos c4] at H
    have c4b0 : decide (0 ≤ x3_1) = true := decide_eq_true c4
    clear c4
    by_cases c5 : x3_1 < (x0_1.length : Int)
    rotate_left
    · rw [if_neg c5] at H
      exact absurd H (by simp)
    rw [if_pos c5] at H
    have c5b0 : decide (x3_1 < (x0_1.length : Int)) = true := decide_eq_true c5
    have c5b0l := c5b0
    (try simp only [hl0_1] at c5b0l)
    clear c5
    by_cases c6 : 0 ≤ x2_1
    rotate_left
    · rw [if_neg c6] at H
      exact absurd H (by simp)
    rw [if_pos c6] at H
    have c6b0 : decide (0 ≤ x2_1) = true := decide_eq_true c6
    clear c6
    by_cases c7 : x2_1 < (x0_1.length : Int)
    rotate_left
    · rw [if_neg c7] at H
      exact absurd H (by simp)
    rw [if_pos c7] at H
    have c7b0 : decide (x2_1 < (x0_1.length : Int)) = true := decide_eq_true c7
    have c7b0l := c7b0
    (try simp only [hl0_1] at c7b0l)
    clear c7
    obtain ⟨y129, hy129⟩ : ∃ y_ : List Int, y_ = (x0_1.set (x2_1 : Int).toNat (rd x0_1 x3_1)) := ⟨_, rfl⟩
    replace H : (slices_Reverse_int_int.l0 k1 (y129.set (x3_1 : Int).toNat (rd x0_1 x2_1)) (wrap64 (x2_1 + 1)) (wrap64 (x3_1 - 1))) = some r := by first | (rw [hy129]; with_reducible exact H) | (have H2_ := (Option.bind_some _ _).symm.trans H; rw [hy129]; with_reducible exact H2_) | exact H
    have Ny129 := Aside0.mk hy129
    clear hy129
    obtain ⟨y130, hy130⟩ : ∃ y_ : List Int, y_ = (y129.set (x3_1 : Int).toNat (rd x0_1 x2_1)) := ⟨_, rfl⟩
    replace H : (slices_Reverse_int_int.l0 k1 y130 (wrap64 (x2_1 + 1)) (wrap64 (x3_1 - 1))) = some r := by first | (rw [hy130]; with_reducible exact H) | (have H2_ := (Option.bind_some _ _).symm.trans H; rw [hy130]; with_reducible exact H2_) | exact H
    have Ny130 := Aside0.mk hy130
    clear hy130
    have H' := Aside0.mk H
    clear H
    try go_wp2
    have n0_ := Aside0.mk (R_drew HO_0.out)
    have n1_ := Aside0.mk (Kept.drew HK.out)
    have n2_ := Aside0.mk (below_drew1 HB.out)
    clear HO_0
    clear HK
    clear HB
    have HO_0 := n0_
    have HK := n1_
    have HB := n2_
    clear n0_ n1_ n2_
    have p127 : 0 ≤ (x3_1 : Int) := of_decide_eq_true (by with_reducible assumption)
    have q127 : x3_1 < (x0_1.length : Int) := of_decide_eq_true (by with_reducible assumption)
    obtain ⟨ad127, e127, hx127_0⟩ := Kd.at_int (R_reads' HO_0.out).2.2 x3_1 p127 q127
    cases e127
    replace p127 := eq_true p127
    replace q127 := eq_true q127
    have p128 : 0 ≤ (x2_1 : Int) := of_decide_eq_true (by with_reducible assumption)
    have q128 : x2_1 < (x0_1.length : Int) := of_decide_eq_true (by with_reducible assumption)
    obtain ⟨ad128, e128, hx128_0⟩ := Kd.at_int (R_reads' HO_0.out).2.2 x2_1 p128 q128
    obtain rfl : ad127 = ad128 := (by injection e128)
    replace p128 := eq_true p128
    replace q128 := eq_true q128
    have p8 : 0 ≤ (x2_1 : Int) := of_decide_eq_true (by with_reducible assumption)
    have q8 : (x2_1 : Int) < ((x0_1.length : Int) : Int) := of_decide_eq_true (by with_reducible assumption)
    obtain ⟨go8, co8, eo8, gb8, gl8, cl8, HG8⟩ := Kd.R_form HO_0.out (by omega)
    (first | cases eo8 | (injection eo8 with ea_ en_ ec_; (first | subst ea_ | (injection ea_ with ea_; subst ea_)); subst ec_; clear en_))
    have GB8 := Aside0.mk gb8
    have GG8 := Aside0.mk HG8
    clear gb8 gl8 HG8
    have HMgo8 := Aside0.mk (show (P0_ go8 ∨ w.heap.size ≤ go8) from (HO_0.out.1 _ rfl))
    (first | simp only [add_plain] at hx127_0 | skip)
    (first | simp only [add_plain] at hx128_0 | skip)
    obtain ⟨hx8_0, hf8_0⟩ := Kd.R_celln 0 HO_0.out (x2_1 : Int) p8 q8
    replace p8 := eq_true p8
    replace q8 := eq_true q8
    have HP11 := Kd.R_putn HO_0.out (x2_1 : Int) (rd x0_1 x3_1)
    rw [← Ny129.out] at HP11
    have HQ11 := Aside0.mk HP11
    clear HP11
    have p9 : 0 ≤ (x3_1 : Int) := of_decide_eq_true (by with_reducible assumption)
    have q9 : (x3_1 : Int) < ((x0_1.length : Int) : Int) := of_decide_eq_true (by with_reducible assumption)
    obtain ⟨hx9_0, hf9_0⟩ := Kd.R_celln 0 HQ11.out (x3_1 : Int) p9 q9
    replace p9 := eq_true p9
    replace q9 := eq_true q9
    have HP12 := Kd.R_putn HQ11.out (x3_1 : Int) (rd x0_1 x2_1)
    rw [← Ny130.out] at HP12
    have HQ12 := Aside0.mk HP12
    clear HP12
    refine start_ (n := 16) (S := fun w' => w'.cell? ⟨go8, (x3_1).toNat, none⟩ = some (.int .i64 (rd x0_1 x3_1)) ∧ w'.cell? ⟨go8, (x2_1).toNat, none⟩ = some (.int .i64 (rd x0_1 x2_1))) (ds := [13, 15]) #[false, false, false, false, false, false, false, false, false, false, false, false, false, false, false, false] (by kernel_rfl) rfl rfl ⟨hx127_0, hx128_0⟩ (fun hHeld => ?_); refine with_tabW slices_Reverse_int_int.tab3 slices_Reverse_int_int.bits3 (fun HT_ HW_ => ?_)
    generalize wr.drew = w10 at HO_0 HK HB GG8 HQ11 HQ12 hf8_0 hf9_0 hx127_0 hx128_0 hx8_0 hx9_0 hHeld ⊢
    refine pure_ (i := 0) (N := some 14) (v := ?_) (a' := ?_) #[true, false, false, false, false, false, false, false, false, false, false, false, false, false, false, false] rfl rfl (any_of HT_.out (by kernel_rfl)) (fun _ _ _ h => h) (Or.inl ⟨by rfl, ?_⟩) ?_ ?_
    rotate_left
    · intro w'
      go_simp
      with_reducible rfl
    rotate_left
    · simp only [Act.put, List.setIfInBounds_toArray, List.set_cons_zero, List.set_cons_succ, i64_w, i32_w]
      rfl
    refine pure_ (i := 1) (N := some 15) (v := ?_) (a' := ?_) #[true, true, false, false, false, false, false, false, false, false, false, false, false, false, false, false] rfl rfl (any_of HT_.out (by kernel_rfl)) (fun _ _ _ h => h) (Or.inl ⟨by rfl, ?_⟩) ?_ ?_
    rotate_left
    · intro w'
      go_simp
      with_reducible rfl
    rotate_left
    · simp only [Act.put, List.setIfInBounds_toArray, List.set_cons_zero, List.set_cons_succ, i64_w, i32_w]
      rfl
    refine pure_ (i := 2) (N := some 16) (v := ?_) (a' := ?_) #[true, true, true, false, false, false, false, false, false, false, false, false, false, false, false, false] rfl rfl (any_of HT_.out (by kernel_rfl)) (fun _ _ _ h => h) (Or.inl ⟨by rfl, ?_⟩) ?_ ?_
    rotate_left
    · intro w'
      go_simp
      with_reducible rfl
    rotate_left
    · simp only [Act.put, List.setIfInBounds_toArray, List.set_cons_zero, List.set_cons_succ, i64_w, i32_w]
      rfl
    refine pure_ (i := 3) (N := some 17) (v := ?_) (a' := ?_) #[true, true, true, true, false, false, false, false, false, false, false, false, false, false, false, false] rfl rfl (any_of HT_.out (by kernel_rfl)) (fun _ _ _ h => h) (Or.inl ⟨by rfl, ?_⟩) ?_ ?_
    rotate_left
    · intro w'
      go_simp
      with_reducible rfl
    rotate_left
    · simp only [Act.put, List.setIfInBounds_toArray, List.set_cons_zero, List.set_cons_succ, i64_w, i32_w]
      rfl
    refine pure_ (i := 4) (N := some 18) (v := ?_) (a' := ?_) #[true, true, true, true, true, false, false, false, false, false, false, false, false, false, false, false] rfl rfl (any_of HT_.out (by kernel_rfl)) (fun _ _ _ h => h) (Or.inl ⟨by rfl, ?_⟩) ?_ ?_
    rotate_left
    · intro w'
      go_simp
      with_reducible rfl
    rotate_left
    · simp only [Act.put, List.setIfInBounds_toArray, List.set_cons_zero, List.set_cons_succ, i64_w, i32_w]
      rfl
    refine pure_ (i := 5) (N := some 19) (v := ?_) (a' := ?_) #[true, true, true, true, true, true, false, false, false, false, false, false, false, false, false, false] rfl rfl (any_of HT_.out (by kernel_rfl)) (fun _ _ _ h => h) (Or.inl ⟨by rfl, ?_⟩) ?_ ?_
    rotate_left
    · intro w'
      go_simp
      with_reducible rfl
    rotate_left
    · simp only [Act.put, List.setIfInBounds_toArray, List.set_cons_zero, List.set_cons_succ, i64_w, i32_w]
      rfl
    refine pure_ (i := 6) (N := some 20) (v := ?_) (a' := ?_) #[true, true, true, true, true, true, true, false, false, false, false, false, false, false, false, false] rfl rfl (any_of HT_.out (by kernel_rfl)) (fun _ _ _ h => h) (Or.inl ⟨by rfl, ?_⟩) ?_ ?_
    rotate_left
    · intro w'
      go_simp
      with_reducible rfl
    rotate_left
    · simp only [Act.put, List.setIfInBounds_toArray, List.set_cons_zero, List.set_cons_succ, i64_w, i32_w]
      rfl
    refine pure_ (i := 8) (N := some 22) (v := ?_) (a' := ?_) #[true, true, true, true, true, true, true, false, true, false, false, false, false, false, false, false] rfl rfl (any_of HT_.out (by kernel_rfl)) (fun _ _ _ h => h) (Or.inl ⟨by rfl, ?_⟩) ?_ ?_
    rotate_left
    · intro w'
      go_simp
      with_reducible rfl
    rotate_left
    · simp only [Act.put, List.setIfInBounds_toArray, List.set_cons_zero, List.set_cons_succ, i64_w, i32_w]
      rfl
    refine pure_ (i := 9) (N := some 23) (v := ?_) (a' := ?_) #[true, true, true, true, true, true, true, false, true, true, false, false, false, false, false, false] rfl rfl (any_of HT_.out (by kernel_rfl)) (fun _ _ _ h => h) (Or.inl ⟨by rfl, ?_⟩) ?_ ?_
    rotate_left
    · intro w'
      go_simp
      with_reducible rfl
    rotate_left
    · simp only [Act.put, List.setIfInBounds_toArray, List.set_cons_zero, List.set_cons_succ, i64_w, i32_w]
      rfl
    refine pure_ (i := 10) (N := some 24) (v := ?_) (a' := ?_) #[true, true, true, true, true, true, true, false, true, true, true, false, false, false, false, false] rfl rfl (any_of HT_.out (by kernel_rfl)) (fun _ _ _ h => h) (Or.inl ⟨by rfl, ?_⟩) ?_ ?_
    rotate_left
    · intro w'
      go_simp
      with_reducible rfl
    rotate_left
    · simp only [Act.put, List.setIfInBounds_toArray, List.set_cons_zero, List.set_cons_succ, i64_w, i32_w]
      rfl
    refine take_ (i := 7) (N := some 21) (v := ?_) (a' := ?_) #[true, true, true, true, true, true, true, true, true, true, true, false, false, false, false, false] rfl rfl (take_ofW HT_.out HW_.out (by kernel_rfl)) (fun _ _ _ h => h) (Or.inl ⟨by rfl, ?_⟩) hHeld ?_ ?_
    rotate_left
    · rintro w' ⟨s0, s1⟩
      go_simp
      with_reducible rfl
    rotate_left
    · simp only [Act.put, List.setIfInBounds_toArray, List.set_cons_zero, List.set_cons_succ, i64_w, i32_w]
      rfl
    refine take_ (i := 11) (N := some 25) (v := ?_) (a' := ?_) #[true, true, true, true, true, true, true, true, true, true, true, true, false, false, false, false] rfl rfl (take_ofW HT_.out HW_.out (by kernel_rfl)) (fun _ _ _ h => h) (Or.inl ⟨by rfl, ?_⟩) hHeld ?_ ?_
    rotate_left
    · rintro w' ⟨s0, s1⟩
      go_simp
      with_reducible rfl
    rotate_left
    · simp only [Act.put, List.setIfInBounds_toArray, List.set_cons_zero, List.set_cons_succ, i64_w, i32_w]
      rfl
    refine pure_ (i := 12) (N := some 26) (v := ?_) (a' := ?_) #[true, true, true, true, true, true, true, true, true, true, true, true, true, false, false, false] rfl rfl (any_of HT_.out (by kernel_rfl)) (fun _ _ _ h => h) (Or.inl ⟨by rfl, ?_⟩) ?_ ?_
    rotate_left
    · intro w'
      go_simp
      with_reducible rfl
    rotate_left
    · simp only [Act.put, List.setIfInBounds_toArray, List.set_cons_zero, List.set_cons_succ, i64_w, i32_w]
      rfl
    refine last_ (i := 13) (N := none) #[true, true, true, true, true, true, true, true, true, true, true, true, true, true, false, false] rfl rfl (one_of HT_.out (by kernel_rfl)) (by decide) (fun K hK => ?_)
    refine skip_ (w1 := ?_) (by rfl) rfl ?_ ?_
    rotate_left
    · go_simp
      rfl
    refine hK.out _ _ ?_
    clear hK K
    refine pure_ (i := 14) (N := some 27) (v := ?_) (a' := ?_) #[true, true, true, true, true, true, true, true, true, true, true, true, true, true, true, false] rfl rfl (any_of HT_.out (by kernel_rfl)) (fun _ _ _ h => h) (Or.inl ⟨by rfl, ?_⟩) ?_ ?_
    rotate_left
    · intro w'
      go_simp
      with_reducible rfl
    rotate_left
    · simp only [Act.put, List.setIfInBounds_toArray, List.set_cons_zero, List.set_cons_succ, i64_w, i32_w]
      rfl
    refine last_ (i := 15) (N := none) #[true, true, true, true, true, true, true, true, true, true, true, true, true, true, true, true] rfl rfl (one_of HT_.out (by kernel_rfl)) (by decide) (fun K hK => ?_)
    refine skip_ (w1 := ?_) (by rfl) rfl ?_ ?_
    rotate_left
    · go_simp
      rfl
    refine hK.out _ _ ?_
    clear hK K
    refine done_ (done_of HT_.out (by kernel_rfl)) ?_
    try go_wp2
    (try simp only [← hl0_1])
    go_roundg k1
    case measure => have := HK1.out; omega
    case rel => exact ⟨(y130), (wrap64 (x2_1 + 1)), (wrap64 (x3_1 - 1)), (by first | rfl | (simp; done) | (simp [*]; done)), (by first | rfl | (simp; done) | (simp [*]; done)), H', ⟨by have := HK1.out; omega⟩, ⟨by (try simp only [hl0_1]); (with_reducible repeat (first | apply R_alloc | apply R_drewN | apply R_drew)); exact HQ12.out⟩, ⟨by repeat (first | (with_reducible first | exact HK.out | apply Kept.alloc | apply Kept.drewN | apply Kept.drew | refine Kept.setCell ?_ HMgo8.out _ | refine Kept.setCell ?_ HMgo8.out _) | exact HK.out)⟩, ⟨by repeat (first | (with_reducible first | exact HB.out | apply below_alloc | apply pw_below_drewN | apply below_drew1 | refine below_set ?_ GB8.out | refine below_set ?_ GB8.out) | exact HB.out)⟩⟩
  rw [if_neg c3] at H
  have c3b0 : decide (x2_1 < x3_1) = false := decide_eq_false c3
  clear c3
  obtain rfl := Option.some.inj H
  go_wp2
  first | go_end0 | ((try simp only [Exit.inBlock, Exit.then]); refine bodyPost_ret (results_none rfl _ _ _) rfl ?_)
  exact ⟨by first | rfl | (simp [errW_none, errW_some] <;> rfl) | (simp [*, errW_none, errW_some] <;> rfl), (by first | exact (by (with_reducible repeat (first | apply R_alloc | apply R_drewN | apply R_drew)); exact HO_0.out) | (simp only [hl0_1]; exact (by (with_reducible repeat (first | apply R_alloc | apply R_drewN | apply R_drew)); exact HO_0.out))), by repeat (first | (with_reducible first | exact HB.out | apply below_alloc | apply pw_below_drewN | apply below_drew1) | exact HB.out), by repeat (first | (with_reducible first | exact HK.out | apply Kept.alloc | apply Kept.drewN | apply Kept.drew) | exact HK.out)⟩

end Go.Proofs.Ytpionncanaamgaa.PLoopsPaths
