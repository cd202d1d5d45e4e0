-- Laid by a program of this session (wip/pp/patch.py over the kit's print).
import Derived.Test.YtocjpkjijjdnbaaPCheckStaysx0
namespace Go.Proofs.Ytocjpkjijjdnbaa.PCheckStays
open Go.RowKit Go.Proofs.YtocjpkjijjdnbaaW.PrintWords Go.Proofs.YtocjpkjijjdnbaaW.PrintLast Go.Proofs.YtocjpkjijjdnbaaW.PrintMore Go.Proofs.YtocjpkjijjdnbaaW.PrintWords.Kd
attribute [local go_sem] max2_int min2_int max_two min_two max_three min_three max_four min_four   -- for this text's walks alone
set_option linter.unusedVariables false
set_option linter.unusedSimpArgs false

/-! ### check_ends: function 21 -/
def check_ends.l0 : Nat → List Int → Int → Int → Int → Int → List Int → List (S43) → Int → Int → List Int → Option (Bool)
  | 0, _, _, _, _, _, _, _, _, _, _ => none
  | k + 1, x8, x9, x10, x122000, x122001, x122002, x122003, x123000, x123001, x123002 => if x10 < x9 then (if 0 ≤ x10 then (if x10 < (x8.length : Int) then (if (rd x8 x10) < 1 then (some false) else (if (rd x8 x10) ≥ (x122003.length : Int) then (some false) else (check_ends.l0 k x8 x9 (wrap64 (x10 + 1)) x122000 x122001 x122002 x122003 x123000 x123001 x123002))) else (none)) else (none)) else (if x123000 = 1 then (some ((x123002.length : Int) == 1)) else (if x123000 = 2 then (if (x123002.length : Int) = 2 then (if 0 < (x123002.length : Int) then (if 1 < (x123002.length : Int) then (some ((rd x123002 0) != (rd x123002 1))) else (none)) else (none)) else (some false)) else (if x123000 = 3 then (some ((x123002.length : Int) == 0)) else (some false))))
def check_ends.f (k : Nat) (a0_0 : Int) (a0_1 : Int) (l0_2 : List Int) (l0_3 : List (S43)) (a1_0 : Int) (a1_1 : Int) (l1_2 : List Int) : Option (Bool) := check_ends.l0 k l1_2 (l1_2.length : Int) 0 a0_0 a0_1 l0_2 l0_3 a1_0 a1_1 l1_2
theorem check_ends.mono_l : ∀ k, (∀ y0 y1 y2 y3 y4 y5 y6 y7 y8 y9, LeO (check_ends.l0 k y0 y1 y2 y3 y4 y5 y6 y7 y8 y9) (check_ends.l0 (k + 1) y0 y1 y2 y3 y4 y5 y6 y7 y8 y9))
  | 0 => fun _ _ _ _ _ _ _ _ _ _ r h => by simp [check_ends.l0] at h
  | k + 1 => by
    have ih0 := check_ends.mono_l k
    · intro y0 y1 y2 y3 y4 y5 y6 y7 y8 y9
      unfold check_ends.l0
      repeat' first
      | (with_reducible exact ih0 _ _ _ _ _ _ _ _ _ _)
      | (with_reducible exact LeO.refl _)
      | (with_reducible exact LeO.none _)
      | (with_reducible refine LeO.ite ?_ ?_)
      | (with_reducible refine LeO.bind ?_ (fun _ => ?_))
      | exact ih0 _ _ _ _ _ _ _ _ _ _
      | exact LeO.none _
      | refine LeO.ite ?_ ?_
      | refine LeO.bind ?_ (fun _ => ?_)
theorem check_ends.mono : ∀ a0 a1 a2 a3 a4 a5 a6 k, LeO (check_ends.f k a0 a1 a2 a3 a4 a5 a6) (check_ends.f (k + 1) a0 a1 a2 a3 a4 a5 a6) := by
  intro a0 a1 a2 a3 a4 a5 a6 k
  have ih0 := check_ends.mono_l k
  unfold check_ends.f
  repeat' first
      | (with_reducible exact ih0 _ _ _ _ _ _ _ _ _ _)
      | (with_reducible exact LeO.refl _)
      | (with_reducible exact LeO.none _)
      | (with_reducible refine LeO.ite ?_ ?_)
      | (with_reducible refine LeO.bind ?_ (fun _ => ?_))
      | exact ih0 _ _ _ _ _ _ _ _ _ _
      | exact LeO.none _
      | refine LeO.ite ?_ ?_
      | refine LeO.bind ?_ (fun _ => ?_)
set_option maxHeartbeats 8000000 in
set_option maxRecDepth 100000 in
theorem check_ends.calls (k : Nat) (a0_0 : Int) (a0_1 : Int) (A0_2 : Option Addr) (c0_2 : Nat) (l0_2 : List Int) (A0_3 : Option Addr) (c0_3 : Nat) (l0_3 : List (S43)) (a1_0 : Int) (a1_1 : Int) (A1_2 : Option Addr) (c1_2 : Nat) (l1_2 : List Int) (r : Bool) (w : World) (hr0_2 : Kd.C (Kd.int .i64) w A0_2 l0_2.length l0_2) (hc0_2 : l0_2.length ≤ c0_2) (hr0_3 : Kd.C k43 w A0_3 l0_3.length l0_3) (hc0_3 : l0_3.length ≤ c0_3) (hr1_2 : Kd.C (Kd.int .i64) w A1_2 l1_2.length l1_2) (hc1_2 : l1_2.length ≤ c1_2) (h : check_ends.f k a0_0 a0_1 l0_2 l0_3 a1_0 a1_1 l1_2 = some r) :
    Calls Try.prog 21 #[.agg #[.int .i64 a0_0, .int .i64 a0_1, .slice A0_2 l0_2.length c0_2, .slice A0_3 l0_3.length c0_3], .agg #[.int .i64 a1_0, .int .i64 a1_1, .slice A1_2 l1_2.length c1_2]] w fun e w' => e = .returned (.bool r) ∧ Below w.heap.size w w' := by
  have hu25 := Try.underlying25
  have hu41 := Try.underlying41
  have HR0_2 := Aside0.mk hr0_2
  have HC0_2 := Aside0.mk hc0_2
  clear hr0_2 hc0_2
  have HR0_3 := Aside0.mk hr0_3
  have HC0_3 := Aside0.mk hc0_3
  clear hr0_3 hc0_3
  have HR1_2 := Aside0.mk hr1_2
  have HC1_2 := Aside0.mk hc1_2
  clear hr1_2 hc1_2
  have HB := Aside0.mk (Below.refl w.heap.size w)
  have H : (check_ends.l0 k l1_2 (l1_2.length : Int) 0 a0_0 a0_1 l0_2 l0_3 a1_0 a1_1 l1_2) = some r := h
  clear h
  have H' := Aside0.mk H
  clear H
  go_enter Try.func21, Try.ntmps21
  go_wp2_with (first | ((with_reducible refine gate_dst (N := 2) rfl ?_); (try (refine gate_guard (by rfl) ?_; dsimp only)); refine box_event ?hg (N := 2) ?hd (cs := #[.int .i64 a0_0, .int .i64 a0_1, .slice A0_2 l0_2.length c0_2, .slice A0_3 l0_3.length c0_3]) (t := 25) ?hr ?_; (case hd => rfl); (case hg => rfl); (case hr => first | (go_simp; done) | (go_simp; rfl)); intro gb121 hg w3 hbox hb; have n0_ := Aside0.mk (below_step (by repeat with_reducible first | exact HB.out | apply below_alloc | apply pw_below_drewN | apply below_drew1) hb); have n1_ := Aside0.mk (hbox); have n2_ := Aside0.mk ((by rw [hg]; exact (below_size (by repeat with_reducible first | exact HB.out | apply below_alloc | apply pw_below_drewN | apply below_drew1)) : w.heap.size ≤ gb121)); have n3_ := Aside0.mk ((by rw [hg]; exact (below_size (by repeat with_reducible first | exact HB.out | apply below_alloc | apply pw_below_drewN | apply below_drew1)) : w.heap.size ≤ gb121)); clear HB; have HB := n0_; have BK121 := n1_; have GW121 := n2_; have GE121 := n3_; clear n0_ n1_ n2_ n3_; clear hb hbox hg) | ((with_reducible refine gate_dst (N := 3) rfl ?_); (try (refine gate_guard (by rfl) ?_; dsimp only)); refine box_event ?hg (N := 3) ?hd (cs := #[.int .i64 a1_0, .int .i64 a1_1, .slice A1_2 l1_2.length c1_2]) (t := 41) ?hr ?_; (case hd => rfl); (case hg => rfl); (case hr => first | (go_simp; done) | (go_simp; rfl)); intro gb122 hg w4 hbox hb; have n0_ := Aside0.mk (blk_below (g := gb121) (o := .cells #[.int .i64 a0_0, .int .i64 a0_1, .slice A0_2 l0_2.length c0_2, .slice A0_3 l0_3.length c0_3] 25 (0, 0)) (by (with_reducible repeat (first | refine blk_drewN ?_ _ | refine blk_drew ?_ | refine blk_alloc ?_ _)); exact BK121.out) hb); have n1_ := Aside0.mk (below_step (by repeat with_reducible first | exact HB.out | apply below_alloc | apply pw_below_drewN | apply below_drew1 | refine below_set ?_ GE121.out) hb); have n2_ := Aside0.mk (hbox); have n3_ := Aside0.mk ((by rw [hg]; exact (below_size (by repeat with_reducible first | exact HB.out | apply below_alloc | apply pw_below_drewN | apply below_drew1 | refine below_set ?_ GE121.out)) : w.heap.size ≤ gb122)); have n4_ := Aside0.mk ((by rw [hg]; exact (below_size (by repeat with_reducible first | exact HB.out | apply below_alloc | apply pw_below_drewN | apply below_drew1 | refine below_set ?_ GE121.out)) : w.heap.size ≤ gb122)); have n5_ := Aside0.mk ((by rw [hg]; exact Nat.ne_of_lt (blk_lt (g := gb121) (o := .cells #[.int .i64 a0_0, .int .i64 a0_1, .slice A0_2 l0_2.length c0_2, .slice A0_3 l0_3.length c0_3] 25 (0, 0)) (by (with_reducible repeat (first | refine blk_drewN ?_ _ | refine blk_drew ?_ | refine blk_alloc ?_ _)); exact BK121.out)) : gb121 ≠ gb122)); have n6_ := Aside0.mk ((by rw [hg]; exact Nat.ne_of_gt (blk_lt (g := gb121) (o := .cells #[.int .i64 a0_0, .int .i64 a0_1, .slice A0_2 l0_2.length c0_2, .slice A0_3 l0_3.length c0_3] 25 (0, 0)) (by (with_reducible repeat (first | refine blk_drewN ?_ _ | refine blk_drew ?_ | refine blk_alloc ?_ _)); exact BK121.out)) : gb122 ≠ gb121)); clear BK121; clear HB; have BK121 := n0_; have HB := n1_; have BK122 := n2_; have GW122 := n3_; have GE122 := n4_; have NB121_122 := n5_; have NB122_121 := n6_; clear n0_ n1_ n2_ n3_ n4_ n5_ n6_; clear hb hbox hg; have hnb5 := NB122_121.out; have hnc5 := NB121_122.out; have hcz6_0 : w4.cell? ⟨gb122, 0, none⟩ = some (.int .i64 a1_0) := (blk_cell BK122.out 0).trans rfl; have hcz6_1 : w4.cell? ⟨gb122, 1, none⟩ = some (.int .i64 a1_1) := (blk_cell BK122.out 1).trans rfl; have hcz6_2 : w4.cell? ⟨gb122, 2, none⟩ = some (.slice A1_2 l1_2.length c1_2) := (blk_cell BK122.out 2).trans rfl; have hfz6_0 := blk_frozen BK122.out 0; have hfz6_1 := blk_frozen BK122.out 1; have hfz6_2 := blk_frozen BK122.out 2))
  repeat (go_quiet (first | ((with_reducible refine gate_dst (N := 2) rfl ?_); (try (refine gate_guard (by rfl) ?_; dsimp only)); refine box_event ?hg (N := 2) ?hd (cs := #[.int .i64 a0_0, .int .i64 a0_1, .slice A0_2 l0_2.length c0_2, .slice A0_3 l0_3.length c0_3]) (t := 25) ?hr ?_; (case hd => rfl); (case hg => rfl); (case hr => first | (go_simp; done) | (go_simp; rfl)); intro gb121 hg w3 hbox hb; have n0_ := Aside0.mk (below_step (by repeat with_reducible first | exact HB.out | apply below_alloc | apply pw_below_drewN | apply below_drew1) hb); have n1_ := Aside0.mk (hbox); have n2_ := Aside0.mk ((by rw [hg]; exact (below_size (by repeat with_reducible first | exact HB.out | apply below_alloc | apply pw_below_drewN | apply below_drew1)) : w.heap.size ≤ gb121)); have n3_ := Aside0.mk ((by rw [hg]; exact (below_size (by repeat with_reducible first | exact HB.out | apply below_alloc | apply pw_below_drewN | apply below_drew1)) : w.heap.size ≤ gb121)); clear HB; have HB := n0_; have BK121 := n1_; have GW121 := n2_; have GE121 := n3_; clear n0_ n1_ n2_ n3_; clear hb hbox hg) | ((with_reducible refine gate_dst (N := 3) rfl ?_); (try (refine gate_guard (by rfl) ?_; dsimp only)); refine box_event ?hg (N := 3) ?hd (cs := #[.int .i64 a1_0, .int .i64 a1_1, .slice A1_2 l1_2.length c1_2]) (t := 41) ?hr ?_; (case hd => rfl); (case hg => rfl); (case hr => first | (go_simp; done) | (go_simp; rfl)); intro gb122 hg w4 hbox hb; have n0_ := Aside0.mk (blk_below (g := gb121) (o := .cells #[.int .i64 a0_0, .int .i64 a0_1, .slice A0_2 l0_2.length c0_2, .slice A0_3 l0_3.length c0_3] 25 (0, 0)) (by (with_reducible repeat (first | refine blk_drewN ?_ _ | refine blk_drew ?_ | refine blk_alloc ?_ _)); exact BK121.out) hb); have n1_ := Aside0.mk (below_step (by repeat with_reducible first | exact HB.out | apply below_alloc | apply pw_below_drewN | apply below_drew1 | refine below_set ?_ GE121.out) hb); have n2_ := Aside0.mk (hbox); have n3_ := Aside0.mk ((by rw [hg]; exact (below_size (by repeat with_reducible first | exact HB.out | apply below_alloc | apply pw_below_drewN | apply below_drew1 | refine below_set ?_ GE121.out)) : w.heap.size ≤ gb122)); have n4_ := Aside0.mk ((by rw [hg]; exact (below_size (by repeat with_reducible first | exact HB.out | apply below_alloc | apply pw_below_drewN | apply below_drew1 | refine below_set ?_ GE121.out)) : w.heap.size ≤ gb122)); have n5_ := Aside0.mk ((by rw [hg]; exact Nat.ne_of_lt (blk_lt (g := gb121) (o := .cells #[.int .i64 a0_0, .int .i64 a0_1, .slice A0_2 l0_2.length c0_2, .slice A0_3 l0_3.length c0_3] 25 (0, 0)) (by (with_reducible repeat (first | refine blk_drewN ?_ _ | refine blk_drew ?_ | refine blk_alloc ?_ _)); exact BK121.out)) : gb121 ≠ gb122)); have n6_ := Aside0.mk ((by rw [hg]; exact Nat.ne_of_gt (blk_lt (g := gb121) (o := .cells #[.int .i64 a0_0, .int .i64 a0_1, .slice A0_2 l0_2.length c0_2, .slice A0_3 l0_3.length c0_3] 25 (0, 0)) (by (with_reducible repeat (first | refine blk_drewN ?_ _ | refine blk_drew ?_ | refine blk_alloc ?_ _)); exact BK121.out)) : gb122 ≠ gb121)); clear BK121; clear HB; have BK121 := n0_; have HB := n1_; have BK122 := n2_; have GW122 := n3_; have GE122 := n4_; have NB121_122 := n5_; have NB122_121 := n6_; clear n0_ n1_ n2_ n3_ n4_ n5_ n6_; clear hb hbox hg; have hnb5 := NB122_121.out; have hnc5 := NB121_122.out; have hcz6_0 : w4.cell? ⟨gb122, 0, none⟩ = some (.int .i64 a1_0) := (blk_cell BK122.out 0).trans rfl; have hcz6_1 : w4.cell? ⟨gb122, 1, none⟩ = some (.int .i64 a1_1) := (blk_cell BK122.out 1).trans rfl; have hcz6_2 : w4.cell? ⟨gb122, 2, none⟩ = some (.slice A1_2 l1_2.length c1_2) := (blk_cell BK122.out 2).trans rfl; have hfz6_0 := blk_frozen BK122.out 0; have hfz6_1 := blk_frozen BK122.out 1; have hfz6_2 := blk_frozen BK122.out 2)); try go_wp2_with (first | ((with_reducible refine gate_dst (N := 2) rfl ?_); (try (refine gate_guard (by rfl) ?_; dsimp only)); refine box_event ?hg (N := 2) ?hd (cs := #[.int .i64 a0_0, .int .i64 a0_1, .slice A0_2 l0_2.length c0_2, .slice A0_3 l0_3.length c0_3]) (t := 25) ?hr ?_; (case hd => rfl); (case hg => rfl); (case hr => first | (go_simp; done) | (go_simp; rfl)); intro gb121 hg w3 hbox hb; have n0_ := Aside0.mk (below_step (by repeat with_reducible first | exact HB.out | apply below_alloc | apply pw_below_drewN | apply below_drew1) hb); have n1_ := Aside0.mk (hbox); have n2_ := Aside0.mk ((by rw [hg]; exact (below_size (by repeat with_reducible first | exact HB.out | apply below_alloc | apply pw_below_drewN | apply below_drew1)) : w.heap.size ≤ gb121)); have n3_ := Aside0.mk ((by rw [hg]; exact (below_size (by repeat with_reducible first | exact HB.out | apply below_alloc | apply pw_below_drewN | apply below_drew1)) : w.heap.size ≤ gb121)); clear HB; have HB := n0_; have BK121 := n1_; have GW121 := n2_; have GE121 := n3_; clear n0_ n1_ n2_ n3_; clear hb hbox hg) | ((with_reducible refine gate_dst (N := 3) rfl ?_); (try (refine gate_guard (by rfl) ?_; dsimp only)); refine box_event ?hg (N := 3) ?hd (cs := #[.int .i64 a1_0, .int .i64 a1_1, .slice A1_2 l1_2.length c1_2]) (t := 41) ?hr ?_; (case hd => rfl); (case hg => rfl); (case hr => first | (go_simp; done) | (go_simp; rfl)); intro gb122 hg w4 hbox hb; have n0_ := Aside0.mk (blk_below (g := gb121) (o := .cells #[.int .i64 a0_0, .int .i64 a0_1, .slice A0_2 l0_2.length c0_2, .slice A0_3 l0_3.length c0_3] 25 (0, 0)) (by (with_reducible repeat (first | refine blk_drewN ?_ _ | refine blk_drew ?_ | refine blk_alloc ?_ _)); exact BK121.out) hb); have n1_ := Aside0.mk (below_step (by repeat with_reducible first | exact HB.out | apply below_alloc | apply pw_below_drewN | apply below_drew1 | refine below_set ?_ GE121.out) hb); have n2_ := Aside0.mk (hbox); have n3_ := Aside0.mk ((by rw [hg]; exact (below_size (by repeat with_reducible first | exact HB.out | apply below_alloc | apply pw_below_drewN | apply below_drew1 | refine below_set ?_ GE121.out)) : w.heap.size ≤ gb122)); have n4_ := Aside0.mk ((by rw [hg]; exact (below_size (by repeat with_reducible first | exact HB.out | apply below_alloc | apply pw_below_drewN | apply below_drew1 | refine below_set ?_ GE121.out)) : w.heap.size ≤ gb122)); have n5_ := Aside0.mk ((by rw [hg]; exact Nat.ne_of_lt (blk_lt (g := gb121) (o := .cells #[.int .i64 a0_0, .int .i64 a0_1, .slice A0_2 l0_2.length c0_2, .slice A0_3 l0_3.length c0_3] 25 (0, 0)) (by (with_reducible repeat (first | refine blk_drewN ?_ _ | refine blk_drew ?_ | refine blk_alloc ?_ _)); exact BK121.out)) : gb121 ≠ gb122)); have n6_ := Aside0.mk ((by rw [hg]; exact Nat.ne_of_gt (blk_lt (g := gb121) (o := .cells #[.int .i64 a0_0, .int .i64 a0_1, .slice A0_2 l0_2.length c0_2, .slice A0_3 l0_3.length c0_3] 25 (0, 0)) (by (with_reducible repeat (first | refine blk_drewN ?_ _ | refine blk_drew ?_ | refine blk_alloc ?_ _)); exact BK121.out)) : gb122 ≠ gb121)); clear BK121; clear HB; have BK121 := n0_; have HB := n1_; have BK122 := n2_; have GW122 := n3_; have GE122 := n4_; have NB121_122 := n5_; have NB122_121 := n6_; clear n0_ n1_ n2_ n3_ n4_ n5_ n6_; clear hb hbox hg; have hnb5 := NB122_121.out; have hnc5 := NB121_122.out; have hcz6_0 : w4.cell? ⟨gb122, 0, none⟩ = some (.int .i64 a1_0) := (blk_cell BK122.out 0).trans rfl; have hcz6_1 : w4.cell? ⟨gb122, 1, none⟩ = some (.int .i64 a1_1) := (blk_cell BK122.out 1).trans rfl; have hcz6_2 : w4.cell? ⟨gb122, 2, none⟩ = some (.slice A1_2 l1_2.length c1_2) := (blk_cell BK122.out 2).trans rfl; have hfz6_0 := blk_frozen BK122.out 0; have hfz6_1 := blk_frozen BK122.out 1; have hfz6_2 := blk_frozen BK122.out 2)))
  go_loopg [10] k (fun kq v10 w' => ∃ (x10_1 : Int), v10 = .int .i64 x10_1 ∧ Aside0 (check_ends.l0 kq l1_2 (l1_2.length : Int) x10_1 a0_0 a0_1 l0_2 l0_3 a1_0 a1_1 l1_2 = some r) ∧ Aside0 (kq ≤ k) ∧ Aside0 (w'.heap[gb121]? = some (.cells #[.int .i64 a0_0, .int .i64 a0_1, (.slice A0_2 l0_2.length c0_2), (.slice A0_3 l0_3.length c0_3)] 25 (0, 0))) ∧ Aside0 (w'.heap[gb122]? = some (.cells #[.int .i64 a1_0, .int .i64 a1_1, (.slice A1_2 l1_2.length c1_2)] 41 (0, 0))) ∧ Aside0 (Below w.heap.size w w'))
  case atStart => exact ⟨(0), (by first | rfl | (simp; done) | (simp [*]; done)), H', ⟨Nat.le_refl _⟩, ⟨by (with_reducible repeat (first | refine blk_drewN ?_ _ | refine blk_drew ?_ | refine blk_alloc ?_ _)); exact BK121.out⟩, ⟨by (with_reducible repeat (first | refine blk_drewN ?_ _ | refine blk_drew ?_ | refine blk_alloc ?_ _)); exact BK122.out⟩, ⟨by repeat (first | (with_reducible first | exact HB.out | apply below_alloc | apply pw_below_drewN | apply below_drew1 | refine below_set ?_ GE121.out | refine below_set ?_ GE122.out) | exact HB.out)⟩⟩
  clear H'
  try clear c1
  try clear c2
  try clear p2
  try clear c5
  try clear hcz6_0
  try clear hcz6_1
  try clear hcz6_2
  try clear hfz6_0
  try clear hfz6_1
  try clear hfz6_2
  obtain ⟨x10_1, rfl, HA, HK1, BK121, BK122, HB⟩ := hrel
  rcases gk with _ | k1
  · exact absurd HA.out (by simp [check_ends.l0])
  have H := HA.out
  clear HA
  simp only [check_ends.l0] at H
  by_cases c7 : x10_1 < (l1_2.length : Int)
  · rw [if_pos c7] at H
    have c7b0 : decide (x10_1 < (l1_2.length : Int)) = true := decide_eq_true c7
    clear c7
    by_cases c8 : 0 ≤ x10_1
    rotate_left
    · rw [if_neg c8] at H
      exact absurd H (by simp)
    rw [if_pos c8] at H
    have c8b0 : decide (0 ≤ x10_1) = true := decide_eq_true c8
    clear c8
    by_cases c9 : x10_1 < (l1_2.length : Int)
    rotate_left
    · rw [if_neg c9] at H
      exact absurd H (by simp)
    rw [if_pos c9] at H
    have c9b0 : decide (x10_1 < (l1_2.length : Int)) = true := decide_eq_true c9
    clear c9
    by_cases c10 : (rd l1_2 x10_1) < 1
    · rw [if_pos c10] at H
      have c10b0 : decide ((rd l1_2 x10_1) < 1) = true := decide_eq_true c10
      clear c10
      obtain rfl := Option.some.inj H
      have p123 : 0 ≤ (x10_1 : Int) := of_decide_eq_true (by with_reducible assumption)
      have q123 : x10_1 < (l1_2.length : Int) := of_decide_eq_true (by with_reducible assumption)
      obtain ⟨ad123, e123, hx123_0⟩ := Kd.at_int HR1_2.out x10_1 p123 q123
      cases e123
      replace hx123_0 := (HB.out.cell (World.block_lt_of_cell? w _ hx123_0)).trans hx123_0
      replace p123 := eq_true p123
      replace q123 := eq_true q123
      go_wp2
      repeat (go_quiet (fail); try go_wp2)
      go_ret
      exact ⟨by first | rfl | (simp [errW_none, errW_some] <;> rfl) | (simp [*, errW_none, errW_some] <;> rfl), by repeat (first | (with_reducible first | exact HB.out | apply below_alloc | apply pw_below_drewN | apply below_drew1 | refine below_set ?_ GE121.out | refine below_set ?_ GE122.out) | exact HB.out)⟩
    rw [if_neg c10] at H
    have c10b0 : decide ((rd l1_2 x10_1) < 1) = false := decide_eq_false c10
    clear c10
    by_cases c11 : (rd l1_2 x10_1) ≥ (l0_3.length : Int)
    · rw [if_pos c11] at H
      have c11b0 : decide ((l0_3.length : Int) ≤ (rd l1_2 x10_1)) = true := decide_eq_true c11
      clear c11
      obtain rfl := Option.some.inj H
      have p123 : 0 ≤ (x10_1 : Int) := of_decide_eq_true (by with_reducible assumption)
      have q123 : x10_1 < (l1_2.length : Int) := of_decide_eq_true (by with_reducible assumption)
      obtain ⟨ad123, e123, hx123_0⟩ := Kd.at_int HR1_2.out x10_1 p123 q123
      cases e123
      replace hx123_0 := (HB.out.cell (World.block_lt_of_cell? w _ hx123_0)).trans hx123_0
      replace p123 := eq_true p123
      replace q123 := eq_true q123
      have hnb12 := NB121_122.out
      have hnc12 := NB122_121.out
      have hcz13_0 : wr.cell? ⟨gb121, 0, none⟩ = some (.int .i64 a0_0) := (blk_cell BK121.out 0).trans rfl
      have hcz13_1 : wr.cell? ⟨gb121, 1, none⟩ = some (.int .i64 a0_1) := (blk_cell BK121.out 1).trans rfl
      have hcz13_2 : wr.cell? ⟨gb121, 2, none⟩ = some (.slice A0_2 l0_2.length c0_2) := (blk_cell BK121.out 2).trans rfl
      have hcz13_3 : wr.cell? ⟨gb121, 3, none⟩ = some (.slice A0_3 l0_3.length c0_3) := (blk_cell BK121.out 3).trans rfl
      have hfz13_0 := blk_frozen BK121.out 0
      have hfz13_1 := blk_frozen BK121.out 1
      have hfz13_2 := blk_frozen BK121.out 2
      have hfz13_3 := blk_frozen BK121.out 3
      go_wp2
      repeat (go_quiet (fail); try go_wp2)
      go_ret
      exact ⟨by first | rfl | (simp [errW_none, errW_some] <;> rfl) | (simp [*, errW_none, errW_some] <;> rfl), by repeat (first | (with_reducible first | exact HB.out | apply below_alloc | apply pw_below_drewN | apply below_drew1 | refine below_set ?_ GE121.out | refine below_set ?_ GE122.out) | exact HB.out)⟩
    rw [if_neg c11] at H
    have c11b0 : decide ((l0_3.length : Int) ≤ (rd l1_2 x10_1)) = false := decide_eq_false c11
    clear c11
    have H' := Aside0.mk H
    clear H
    have p123 : 0 ≤ (x10_1 : Int) := of_decide_eq_true (by with_reducible assumption)
    have q123 : x10_1 < (l1_2.length : Int) := of_decide_eq_true (by with_reducible assumption)
    obtain ⟨ad123, e123, hx123_0⟩ := Kd.at_int HR1_2.out x10_1 p123 q123
    cases e123
    replace hx123_0 := (HB.out.cell (World.block_lt_of_cell? w _ hx123_0)).trans hx123_0
    replace p123 := eq_true p123
    replace q123 := eq_true q123
    have hnb14 := NB121_122.out
    have hnc14 := NB122_121.out
    have hcz15_0 : wr.cell? ⟨gb121, 0, none⟩ = some (.int .i64 a0_0) := (blk_cell BK121.out 0).trans rfl
    have hcz15_1 : wr.cell? ⟨gb121, 1, none⟩ = some (.int .i64 a0_1) := (blk_cell BK121.out 1).trans rfl
    have hcz15_2 : wr.cell? ⟨gb121, 2, none⟩ = some (.slice A0_2 l0_2.length c0_2) := (blk_cell BK121.out 2).trans rfl
    have hcz15_3 : wr.cell? ⟨gb121, 3, none⟩ = some (.slice A0_3 l0_3.length c0_3) := (blk_cell BK121.out 3).trans rfl
    have hfz15_0 := blk_frozen BK121.out 0
    have hfz15_1 := blk_frozen BK121.out 1
    have hfz15_2 := blk_frozen BK121.out 2
    have hfz15_3 := blk_frozen BK121.out 3
    go_wp2
    repeat (go_quiet (fail); try go_wp2)
    go_roundg k1
    case measure => have := HK1.out; omega
    case rel => exact ⟨(wrap64 (x10_1 + 1)), (by first | rfl | (simp; done) | (simp [*]; done)), H', ⟨by have := HK1.out; omega⟩, ⟨by (with_reducible repeat (first | refine blk_drewN ?_ _ | refine blk_drew ?_ | refine blk_alloc ?_ _)); exact BK121.out⟩, ⟨by (with_reducible repeat (first | refine blk_drewN ?_ _ | refine blk_drew ?_ | refine blk_alloc ?_ _)); exact BK122.out⟩, ⟨by repeat (first | (with_reducible first | exact HB.out | apply below_alloc | apply pw_below_drewN | apply below_drew1 | refine below_set ?_ GE121.out | refine below_set ?_ GE122.out) | exact HB.out)⟩⟩
  rw [if_neg c7] at H
  have c7b0 : decide (x10_1 < (l1_2.length : Int)) = false := decide_eq_false c7
  clear c7
  by_cases c16 : a1_0 = 1
  · rw [if_pos c16] at H
    have c16b0 : (a1_0 == 1) = true := beq_iff_eq.mpr c16
    have c16b1 : (a1_0 != 1) = false := bne_eq_false_iff_eq.mpr c16
    clear c16
    obtain rfl := Option.some.inj H
    have hnb17 := NB122_121.out
    have hnc17 := NB121_122.out
    have hcz18_0 : wr.cell? ⟨gb122, 0, none⟩ = some (.int .i64 a1_0) := (blk_cell BK122.out 0).trans rfl
    have hcz18_1 : wr.cell? ⟨gb122, 1, none⟩ = some (.int .i64 a1_1) := (blk_cell BK122.out 1).trans rfl
    have hcz18_2 : wr.cell? ⟨gb122, 2, none⟩ = some (.slice A1_2 l1_2.length c1_2) := (blk_cell BK122.out 2).trans rfl
    have hfz18_0 := blk_frozen BK122.out 0
    have hfz18_1 := blk_frozen BK122.out 1
    have hfz18_2 := blk_frozen BK122.out 2
    go_wp2
    repeat (go_quiet (fail); try go_wp2)
    go_ret
    exact ⟨by first | rfl | (simp [errW_none, errW_some] <;> rfl) | (simp [*, errW_none, errW_some] <;> rfl), by repeat (first | (with_reducible first | exact HB.out | apply below_alloc | apply pw_below_drewN | apply below_drew1 | refine below_set ?_ GE121.out | refine below_set ?_ GE122.out) | exact HB.out)⟩
  rw [if_neg c16] at H
  have c16b0 : (a1_0 == 1) = false := beq_eq_false_iff_ne.mpr c16
  have c16b1 : (a1_0 != 1) = true := bne_iff_ne.mpr c16
  by_cases c19 : a1_0 = 2
  · rw [if_pos c19] at H
    have c19b0 : (a1_0 == 2) = true := beq_iff_eq.mpr c19
    have c19b1 : (a1_0 != 2) = false := bne_eq_false_iff_eq.mpr c19
    clear c19
    by_cases c20 : (l1_2.length : Int) = 2
    · rw [if_pos c20] at H
      have c20b0 : ((l1_2.length : Int) == 2) = true := beq_iff_eq.mpr c20
      have c20b1 : ((l1_2.length : Int) != 2) = false := bne_eq_false_iff_eq.mpr c20
      clear c20
      by_cases c21 : 0 < (l1_2.length : Int)
      rotate_left
      · rw [if_neg c21] at H
        exact absurd H (by simp)
      rw [if_pos c21] at H
      have c21b0 : decide (0 < (l1_2.length : Int)) = true := decide_eq_true c21
      have c21b1 : decide (0 < l1_2.length) = true := decide_eq_true (by omega)
      clear c21
      by_cases c22 : 1 < (l1_2.length : Int)
      rotate_left
      · rw [if_neg c22] at H
        exact absurd H (by simp)
      rw [if_pos c22] at H
      have c22b0 : decide (1 < (l1_2.length : Int)) = true := decide_eq_true c22
      have c22b1 : decide (1 < l1_2.length) = true := decide_eq_true (by omega)
      clear c22
      obtain rfl := Option.some.inj H
      have hnb23 := NB122_121.out
      have hnc23 := NB121_122.out
      have hcz24_0 : wr.cell? ⟨gb122, 0, none⟩ = some (.int .i64 a1_0) := (blk_cell BK122.out 0).trans rfl
      have hcz24_1 : wr.cell? ⟨gb122, 1, none⟩ = some (.int .i64 a1_1) := (blk_cell BK122.out 1).trans rfl
      have hcz24_2 : wr.cell? ⟨gb122, 2, none⟩ = some (.slice A1_2 l1_2.length c1_2) := (blk_cell BK122.out 2).trans rfl
      have hfz24_0 := blk_frozen BK122.out 0
      have hfz24_1 := blk_frozen BK122.out 1
      have hfz24_2 := blk_frozen BK122.out 2
      have p124 : 0 ≤ (0 : Int) := (by omega)
      have q124 : 0 < (l1_2.length : Int) := of_decide_eq_true (by with_reducible assumption)
      obtain ⟨ad124, e124, hx124_0⟩ := Kd.at_int HR1_2.out 0 p124 q124
      cases e124
      have qi124 : (0 < l1_2.length) = True := eq_true (by omega)
      (try rw [show ((0 : Int)).toNat = 0 from rfl] at hx124_0)
      (try rw [Addr.add_zero'] at hx124_0)
      replace hx124_0 := (HB.out.cell (World.block_lt_of_cell? w _ hx124_0)).trans hx124_0
      replace p124 := eq_true p124
      replace q124 := eq_true q124
      have p125 : 0 ≤ (1 : Int) := (by omega)
      have q125 : 1 < (l1_2.length : Int) := of_decide_eq_true (by with_reducible assumption)
      obtain ⟨ad125, e125, hx125_0⟩ := Kd.at_int HR1_2.out 1 p125 q125
      obtain rfl : ad124 = ad125 := (by injection e125)
      (try simp only [show (1 : Int).toNat = 1 from rfl, Nat.reduceMul, Nat.reduceEqDiff, Go.Addr.add, ↓reduceIte] at hx125_0)
      have qi125 : (1 < l1_2.length) = True := eq_true (by omega)
      (try rw [show ((1 : Int)).toNat = 1 from rfl] at hx125_0)
      replace hx125_0 := (HB.out.cell (World.block_lt_of_cell? w _ hx125_0)).trans hx125_0
      replace p125 := eq_true p125
      replace q125 := eq_true q125
      go_wp2
      repeat (go_quiet (fail); try go_wp2)
      go_ret
      exact ⟨by first | rfl | (simp [errW_none, errW_some] <;> rfl) | (simp [*, errW_none, errW_some] <;> rfl), by repeat (first | (with_reducible first | exact HB.out | apply below_alloc | apply pw_below_drewN | apply below_drew1 | refine below_set ?_ GE121.out | refine below_set ?_ GE122.out) | exact HB.out)⟩
    rw [if_neg c20] at H
    have c20b0 : ((l1_2.length : Int) == 2) = false := beq_eq_false_iff_ne.mpr c20
    have c20b1 : ((l1_2.length : Int) != 2) = true := bne_iff_ne.mpr c20
    obtain rfl := Option.some.inj H
    have hnb25 := NB122_121.out
    have hnc25 := NB121_122.out
    have hcz26_0 : wr.cell? ⟨gb122, 0, none⟩ = some (.int .i64 a1_0) := (blk_cell BK122.out 0).trans rfl
    have hcz26_1 : wr.cell? ⟨gb122, 1, none⟩ = some (.int .i64 a1_1) := (blk_cell BK122.out 1).trans rfl
    have hcz26_2 : wr.cell? ⟨gb122, 2, none⟩ = some (.slice A1_2 l1_2.length c1_2) := (blk_cell BK122.out 2).trans rfl
    have hfz26_0 := blk_frozen BK122.out 0
    have hfz26_1 := blk_frozen BK122.out 1
    have hfz26_2 := blk_frozen BK122.out 2
    go_wp2
    repeat (go_quiet (fail); try go_wp2)
    go_ret
    exact ⟨by first | rfl | (simp [errW_none, errW_some] <;> rfl) | (simp [*, errW_none, errW_some] <;> rfl), by repeat (first | (with_reducible first | exact HB.out | apply below_alloc | apply pw_below_drewN | apply below_drew1 | refine below_set ?_ GE121.out | refine below_set ?_ GE122.out) | exact HB.out)⟩
  rw [if_neg c19] at H
  have c19b0 : (a1_0 == 2) = false := beq_eq_false_iff_ne.mpr c19
  have c19b1 : (a1_0 != 2) = true := bne_iff_ne.mpr c19
  by_cases c27 : a1_0 = 3
  · rw [if_pos c27] at H
    have c27b0 : (a1_0 == 3) = true := beq_iff_eq.mpr c27
    have c27b1 : (a1_0 != 3) = false := bne_eq_false_iff_eq.mpr c27
    clear c27
    obtain rfl := Option.some.inj H
    have hnb28 := NB122_121.out
    have hnc28 := NB121_122.out
    have hcz29_0 : wr.cell? ⟨gb122, 0, none⟩ = some (.int .i64 a1_0) := (blk_cell BK122.out 0).trans rfl
    have hcz29_1 : wr.cell? ⟨gb122, 1, none⟩ = some (.int .i64 a1_1) := (blk_cell BK122.out 1).trans rfl
    have hcz29_2 : wr.cell? ⟨gb122, 2, none⟩ = some (.slice A1_2 l1_2.length c1_2) := (blk_cell BK122.out 2).trans rfl
    have hfz29_0 := blk_frozen BK122.out 0
    have hfz29_1 := blk_frozen BK122.out 1
    have hfz29_2 := blk_frozen BK122.out 2
    go_wp2
    repeat (go_quiet (fail); try go_wp2)
    go_ret
    exact ⟨by first | rfl | (simp [errW_none, errW_some] <;> rfl) | (simp [*, errW_none, errW_some] <;> rfl), by repeat (first | (with_reducible first | exact HB.out | apply below_alloc | apply pw_below_drewN | apply below_drew1 | refine below_set ?_ GE121.out | refine below_set ?_ GE122.out) | exact HB.out)⟩
  rw [if_neg c27] at H
  have c27b0 : (a1_0 == 3) = false := beq_eq_false_iff_ne.mpr c27
  have c27b1 : (a1_0 != 3) = true := bne_iff_ne.mpr c27
  obtain rfl := Option.some.inj H
  have hnb30 := NB122_121.out
  have hnc30 := NB121_122.out
  have hcz31_0 : wr.cell? ⟨gb122, 0, none⟩ = some (.int .i64 a1_0) := (blk_cell BK122.out 0).trans rfl
  have hcz31_1 : wr.cell? ⟨gb122, 1, none⟩ = some (.int .i64 a1_1) := (blk_cell BK122.out 1).trans rfl
  have hcz31_2 : wr.cell? ⟨gb122, 2, none⟩ = some (.slice A1_2 l1_2.length c1_2) := (blk_cell BK122.out 2).trans rfl
  have hfz31_0 := blk_frozen BK122.out 0
  have hfz31_1 := blk_frozen BK122.out 1
  have hfz31_2 := blk_frozen BK122.out 2
  go_wp2
  repeat (go_quiet (fail); try go_wp2)
  go_ret
  exact ⟨by first | rfl | (simp [errW_none, errW_some] <;> rfl) | (simp [*, errW_none, errW_some] <;> rfl), by repeat (first | (with_reducible first | exact HB.out | apply below_alloc | apply pw_below_drewN | apply below_drew1 | refine below_set ?_ GE121.out | refine below_set ?_ GE122.out) | exact HB.out)⟩

-- NOT PRINTED: function 35 (check_looker_has)

-- NOT PRINTED: function 36 (check_looker_are)

-- NOT PRINTED: function 29 (check_looker_phi)

/-! ### arith_Args: function 41 -/
def arith_Args.j0 : Nat → Int → Bool → Option (Int × Bool)
  | 0, _, _ => none
  | k + 1, x0, x4 => if x4 = true then (some (1, true)) else (if x0 ≥ 3 then (if x0 ≤ 13 then (some (2, true)) else (some (0, false))) else (some (0, false)))
def arith_Args.f (k : Nat) (a0 : Int) : Option (Int × Bool) := if a0 = 2 then (arith_Args.j0 k a0 true) else (arith_Args.j0 k a0 (a0 == 14))
theorem arith_Args.mono_l : ∀ k, (∀ y0 y1, LeO (arith_Args.j0 k y0 y1) (arith_Args.j0 (k + 1) y0 y1))
  | 0 => fun _ _ r h => by simp [arith_Args.j0] at h
  | k + 1 => by
    have ih0 := arith_Args.mono_l k
    · intro y0 y1
      unfold arith_Args.j0
      repeat' first
      | (with_reducible exact ih0 _ _)
      | (with_reducible exact LeO.refl _)
      | (with_reducible exact LeO.none _)
      | (with_reducible refine LeO.ite ?_ ?_)
      | (with_reducible refine LeO.bind ?_ (fun _ => ?_))
      | exact ih0 _ _
      | exact LeO.none _
      | refine LeO.ite ?_ ?_
      | refine LeO.bind ?_ (fun _ => ?_)
theorem arith_Args.mono : ∀ a0 k, LeO (arith_Args.f k a0) (arith_Args.f (k + 1) a0) := by
  intro a0 k
  have ih0 := arith_Args.mono_l k
  unfold arith_Args.f
  repeat' first
      | (with_reducible exact ih0 _ _)
      | (with_reducible exact LeO.refl _)
      | (with_reducible exact LeO.none _)
      | (with_reducible refine LeO.ite ?_ ?_)
      | (with_reducible refine LeO.bind ?_ (fun _ => ?_))
      | exact ih0 _ _
      | exact LeO.none _
      | refine LeO.ite ?_ ?_
      | refine LeO.bind ?_ (fun _ => ?_)
set_option maxHeartbeats 8000000 in
set_option maxRecDepth 100000 in
theorem arith_Args.calls (k : Nat) (a0 : Int) (r1 : Int) (r2 : Bool) (w : World) (h : arith_Args.f k a0 = some (r1, r2)) :
    Calls Try.prog 41 #[.int .i64 a0] w fun e w' => e = .returned (.tuple #[.int .i64 r1, .bool r2]) ∧ Drawn0 w w' := by
  have H : (if a0 = 2 then (arith_Args.j0 k a0 true) else (arith_Args.j0 k a0 (a0 == 14))) = some (r1, r2) := h
  clear h
  have HC2 := Aside0.mk H
  clear H
  go_enter Try.func41, Try.ntmps41
  go_upto_region 1 with (fail)
  go_cut [4] (fun v4 wc => ∃ (kq : Nat) (x4_1 : Bool), v4 = .bool x4_1 ∧ Aside0 (arith_Args.j0 kq a0 x4_1 = some (r1, r2)) ∧ Aside0 (kq ≤ k) ∧ Drawn0 w wc)
  case first =>
    have H := HC2.out
    clear HC2
    by_cases c3 : a0 = 2
    · rw [if_pos c3] at H
      have c3b0 : (a0 == 2) = true := beq_iff_eq.mpr c3
      have c3b1 : (a0 != 2) = false := bne_eq_false_iff_eq.mpr c3
      clear c3
      (first | rw [c3b0] | (simp only [i64_w, i32_w]; rw [c3b0]) | skip)
      have H' := Aside0.mk H
      clear H
      go_wp2
      go_meet
      case rel => exact ⟨_, (true), (by first | rfl | (simp; done) | (simp [*]; done)), H', ⟨by first | omega | exact Nat.le_refl _⟩, by repeat (first | exact Drawn0.refl _ | apply Drawn0.step)⟩
    rw [if_neg c3] at H
    have c3b0 : (a0 == 2) = false := beq_eq_false_iff_ne.mpr c3
    have c3b1 : (a0 != 2) = true := bne_iff_ne.mpr c3
    (first | rw [c3b0] | (simp only [i64_w, i32_w]; rw [c3b0]) | skip)
    have H' := Aside0.mk H
    clear H
    go_wp2
    go_meet
    case rel => exact ⟨_, ((a0 == 14)), (by first | rfl | (simp; done) | (simp [*]; done)), H', ⟨by first | omega | exact Nat.le_refl _⟩, by repeat (first | exact Drawn0.refl _ | apply Drawn0.step)⟩
  clear HC2
  try clear p2
  try clear c3
  try clear c3b0
  try clear c3b1
  obtain ⟨kq, x4_1, rfl, HA, HJ1, ⟨mc1, rfl⟩⟩ := hcut
  rcases kq with _ | kj1
  · exact absurd HA.out (by simp [arith_Args.j0])
  have H := HA.out
  clear HA
  simp only [arith_Args.j0] at H
  by_cases c4 : x4_1 = true
  · subst c4
    have H1 : (some (1, true)) = some (r1, r2) := by rw [if_pos rfl] at H; exact H
    clear H
    have H := H1
    clear H1
    simp only [Option.some.injEq, Prod.mk.injEq] at H
    obtain ⟨rfl, rfl⟩ := H
    go_wp2
    go_ret2
    exact ⟨by first | rfl | (simp; done) | (simp [*]; done), by repeat (first | exact Drawn0.refl _ | apply Drawn0.step)⟩
  replace c4 := Bool.eq_false_iff.mpr c4
  subst c4
  have H1 : (if a0 ≥ 3 then (if a0 ≤ 13 then (some (2, true)) else (some (0, false))) else (some (0, false))) = some (r1, r2) := by rw [if_neg (show ¬ (false = true) by decide)] at H; exact H
  clear H
  have H := H1
  clear H1
  by_cases c5 : a0 ≥ 3
  · rw [if_pos c5] at H
    have c5b0 : decide (3 ≤ a0) = true := decide_eq_true c5
    clear c5
    by_cases c6 : a0 ≤ 13
    · rw [if_pos c6] at H
      have c6b0 : decide (a0 ≤ 13) = true := decide_eq_true c6
      clear c6
      simp only [Option.some.injEq, Prod.mk.injEq] at H
      obtain ⟨rfl, rfl⟩ := H
      go_wp2
      go_ret2
      exact ⟨by first | rfl | (simp; done) | (simp [*]; done), by repeat (first | exact Drawn0.refl _ | apply Drawn0.step)⟩
    rw [if_neg c6] at H
    have c6b0 : decide (a0 ≤ 13) = false := decide_eq_false c6
    clear c6
    simp only [Option.some.injEq, Prod.mk.injEq] at H
    obtain ⟨rfl, rfl⟩ := H
    go_wp2
    go_ret2
    exact ⟨by first | rfl | (simp; done) | (simp [*]; done), by repeat (first | exact Drawn0.refl _ | apply Drawn0.step)⟩
  rw [if_neg c5] at H
  have c5b0 : decide (3 ≤ a0) = false := decide_eq_false c5
  clear c5
  simp only [Option.some.injEq, Prod.mk.injEq] at H
  obtain ⟨rfl, rfl⟩ := H
  go_wp2
  go_ret2
  exact ⟨by first | rfl | (simp; done) | (simp [*]; done), by repeat (first | exact Drawn0.refl _ | apply Drawn0.step)⟩

-- NOT PRINTED: function 37 (check_looker_arity)

-- NOT PRINTED: function 42 (check_looker_call)

-- NOT PRINTED: function 38 (check_looker_fits)

-- NOT PRINTED: function 30 (check_looker_instr)

-- NOT PRINTED: function 31 (check_looker_end)

-- NOT PRINTED: function 22 (check_looker_block)

-- NOT PRINTED: function 13 (check_Func)

-- NOT PRINTED: function 10 (check_Module)

/-! ### fettlelaw02_up: function 6 (by hand: two calls at the empty module) -/
theorem check_Module.empty (w : World) : Calls Try.prog 10 #[.agg #[.slice none 0 0]] w fun e w' => e = .returned .nilIface ∧ Below w.heap.size w w' := by
  have HB := Aside0.mk (below_alloc (Below.refl w.heap.size w) (.cells #[.slice none 0 0] 30))
  go_enter Try.func10, Try.ntmps10
  go_wp2
  go_loopg [13] 0 (fun kq v13 w' => v13 = .int .i64 0 ∧ Aside0 (Below w.heap.size w w'))
  case atStart => exact ⟨rfl, HB⟩
  case round =>
    obtain ⟨rfl, HB2⟩ := hrel
    go_wp2
    go_ret
    exact ⟨rfl, HB2.out⟩
theorem check_Func.empty (w : World) : Calls Try.prog 13 #[.agg #[.slice none 0 0], .int .i64 0] w fun e w' => e = .returned (.iface 50 (.int .i64 1)) ∧ Below w.heap.size w w' := by
  have HB := Aside0.mk (below_alloc (Below.refl w.heap.size w) (.cells #[.slice none 0 0] 30))
  go_enter Try.func13, Try.ntmps13
  go_wp2
  go_ret
  exact ⟨rfl, HB.out⟩
def fettlelaw02_up.f : Option Bool := some true
theorem eq_code {w : World} (a b : Int) : (Go.binOp .eql 36 (.iface 50 (.int .i64 a)) (.iface 50 (.int .i64 b))).run Try.prog w = .ok (.bool (a == b)) w := Go.Lib.run_eql_iface_int w a b Try.underlying36 (by kernel_rfl) Try.underlying50
theorem fettlelaw02_up.calls (r : Bool) (w : World) (h : fettlelaw02_up.f = some r) :
    Calls Try.prog 6 #[] w fun e w' => e = .returned (.bool r) ∧ Below w.heap.size w w' := by
  obtain rfl := Option.some.inj h
  clear h
  have he := @eq_code
  go_enter Try.func6, Try.ntmps6
  go_wp2_with (first | (go_at_call 10; refine (check_Module.empty _).mono ?_; rintro e w1 ⟨rfl, hB⟩; have HB := Aside0.mk hB; clear hB) | (go_at_call 13; refine (check_Func.empty _).mono ?_; rintro e w2 ⟨rfl, hB⟩; have HB2 := Aside0.mk hB; clear hB))
  go_ret
  exact ⟨rfl, below_step HB.out HB2.out⟩

end Go.Proofs.Ytocjpkjijjdnbaa.PCheckStays
