-- Laid by a program of this session (wip/pp/patch.py over the kit's print).
import Derived.Test.YtckebppacealeaaDoorPCodeUnlikex0
import Derived.Test.YtckebppacealeaaDoorPCodeUnlikeI
import Derived.Test.YtckebppacealeaaDoorPCodeUnlikeS8
import Derived.Test.YtckebppacealeaaDoorShort
namespace Go.Proofs.YtckebppacealeaaDoor.PCodeUnlike
open Go.Proofs.YtckebppacealeaaDoor.Short Go.RowKit Go.Proofs.YtckebppacealeaaDoorW.PrintWords Go.Proofs.YtckebppacealeaaDoorW.PrintLast Go.Proofs.YtckebppacealeaaDoorW.PrintMore Go.Proofs.YtckebppacealeaaDoorW.PrintWords.Kd
attribute [local go_sem] max2_int min2_int max_two min_two max_three min_three max_four min_four   -- for this text's walks alone
attribute [local go_sem] eqErr29 neErr29 nilErr29
set_option linter.unusedVariables false
set_option linter.unusedSimpArgs false

/-! ### fettleref02_Copy: function 18 -/
def fettleref02_Copy.l0 : Nat → Int → List (S50) → List (S50) → Option ((List (S50)))
  | 0, _, _, _ => none
  | k + 1, x4, x309000, x311000 => if x4 < (x309000.length : Int) then (if 0 ≤ x4 then ((fettleref02_CopyFunc.f k ((rd_T50 x309000 x4).f0) ((rd_T50 x309000 x4).f1) ((rd_T50 x309000 x4).f2) ((rd_T50 x309000 x4).f3)).bind fun bt312 => (if x311000.length < 2199023255552 then (fettleref02_Copy.l0 k (wrap64 (x4 + 1)) x309000 (x311000 ++ [(⟨bt312.1, bt312.2.1, bt312.2.2.1, bt312.2.2.2⟩ : S50)])) else (none))) else (none)) else (some x311000)
def fettleref02_Copy.f (k : Nat) (l0_0 : List (S50)) : Option ((List (S50))) := fettleref02_Copy.l0 k 0 l0_0 ([] : List (S50))
theorem fettleref02_Copy.mono_l : ∀ k, (∀ y0 y1 y2, LeO (fettleref02_Copy.l0 k y0 y1 y2) (fettleref02_Copy.l0 (k + 1) y0 y1 y2))
  | 0 => fun _ _ _ r h => by simp [fettleref02_Copy.l0] at h
  | k + 1 => by
    have ih0 := fettleref02_Copy.mono_l k
    · intro y0 y1 y2
      unfold fettleref02_Copy.l0
      repeat' first
      | (with_reducible exact ih0 _ _ _)
      | (with_reducible exact fettleref02_CopyFunc.mono _ _ _ _ _)
      | (with_reducible exact LeO.refl _)
      | (with_reducible exact LeO.none _)
      | (with_reducible refine LeO.ite ?_ ?_)
      | (with_reducible refine LeO.bind ?_ (fun _ => ?_))
      | exact ih0 _ _ _
      | exact fettleref02_CopyFunc.mono _ _ _ _ _
      | exact LeO.none _
      | refine LeO.ite ?_ ?_
      | refine LeO.bind ?_ (fun _ => ?_)
theorem fettleref02_Copy.mono : ∀ a0 k, LeO (fettleref02_Copy.f k a0) (fettleref02_Copy.f (k + 1) a0) := by
  intro a0 k
  have ih0 := fettleref02_Copy.mono_l k
  unfold fettleref02_Copy.f
  repeat' first
      | (with_reducible exact ih0 _ _ _)
      | (with_reducible exact fettleref02_CopyFunc.mono _ _ _ _ _)
      | (with_reducible exact LeO.refl _)
      | (with_reducible exact LeO.none _)
      | (with_reducible refine LeO.ite ?_ ?_)
      | (with_reducible refine LeO.bind ?_ (fun _ => ?_))
      | exact ih0 _ _ _
      | exact fettleref02_CopyFunc.mono _ _ _ _ _
      | exact LeO.none _
      | refine LeO.ite ?_ ?_
      | refine LeO.bind ?_ (fun _ => ?_)
def fettleref02_Copy.T5 : Bool × List (List Nat × List Nat) := (true, [([], []), ([0], [0]), ([], []), ([2], [2]), ([], []), ([3, 4], [3, 4]), ([5], [5]), ([6], [6]), ([7], [7]), ([1, 8, 7], [1, 8]), ([0, 1, 2, 3, 4, 5, 6, 7, 8, 9], []), ([10, 9, 9, 0, 1, 2, 3, 4, 5, 6, 7, 8, 9], [9, 10])])
def fettleref02_Copy.B5 : List Nat := [0, 1, 0, 4, 0, 28, 60, 124, 252, 511, 1023, 2047]
theorem fettleref02_Copy.tab5 : rtab .any (opsOf Tryd.f18 5) = fettleref02_Copy.T5 := by kernel_rfl
theorem fettleref02_Copy.bits5 : waitsOk fettleref02_Copy.T5.2 fettleref02_Copy.B5 = true := by kernel_rfl
set_option maxHeartbeats 8000000 in
set_option maxRecDepth 100000 in
theorem fettleref02_Copy.calls (k : Nat) (A0_0 : Option Addr) (c0_0 : Nat) (l0_0 : List (S50)) (r : List (S50)) (w : World) (hr0_0 : Kd.C k50 w A0_0 l0_0.length l0_0) (hc0_0 : l0_0.length ≤ c0_0) (h : fettleref02_Copy.f k l0_0 = some r) :
    Calls Tryd.prog 18 #[.agg #[.slice A0_0 l0_0.length c0_0]] w fun e w' => ∃ v0_ : Value, e = .returned (.agg #[v0_]) ∧ Kd.R k50 50 w' w.heap.size (fun _ => True) v0_ r ∧ Below w.heap.size w w' := by
  have hu24 := Tryd.underlying24
  have hu50 := Tryd.underlying50
  have HR0_0 := Aside0.mk hr0_0
  have HC0_0 := Aside0.mk hc0_0
  clear hr0_0 hc0_0
  have HB := Aside0.mk (Below.refl w.heap.size w)
  have H : (fettleref02_Copy.l0 k 0 l0_0 ([] : List (S50))) = some r := h
  clear h
  have H' := Aside0.mk H
  clear H
  go_enter Tryd.func18, Tryd.ntmps18
  go_wp2_with (first | ((with_reducible refine gate_dst (N := 1) rfl ?_); refine box_event ?hg (N := 1) ?hd (cs := #[.slice A0_0 l0_0.length c0_0]) (t := 24) ?hr ?_; (case hd => rfl); (case hg => rfl); (case hr => first | (go_simp; done) | (go_simp; rfl)); intro gb308 hg w2 hbox hb; have n0_ := Aside0.mk (below_step (by repeat with_reducible first | exact HB.out | apply below_alloc | apply pw_below_drewN | apply below_drew1) hb); have n1_ := Aside0.mk (hbox); have n2_ := Aside0.mk ((by rw [hg]; exact (below_size (by repeat with_reducible first | exact HB.out | apply below_alloc | apply pw_below_drewN | apply below_drew1)) : w.heap.size ≤ gb308)); have n3_ := Aside0.mk ((by rw [hg]; exact (below_size (by repeat with_reducible first | exact HB.out | apply below_alloc | apply pw_below_drewN | apply below_drew1)) : w.heap.size ≤ gb308)); clear HB; have HB := n0_; have BK308 := n1_; have GW308 := n2_; have GE308 := n3_; clear n0_ n1_ n2_ n3_; clear hb hbox hg) | ((with_reducible refine gate_dst (N := 2) rfl ?_); refine box_event ?hg (N := 2) ?hd (cs := #[.slice none 0 0]) (t := 24) ?hr ?_; (case hd => rfl); (case hg => rfl); (case hr => first | (go_simp; done) | (go_simp; rfl)); intro gb309 hg w3 hbox hb; have n0_ := Aside0.mk (blk_below (g := gb308) (o := .cells #[.slice A0_0 l0_0.length c0_0] 24 (0, 0)) (by (with_reducible repeat (first | refine blk_drewN ?_ _ | refine blk_drew ?_ | refine blk_alloc ?_ _)); exact BK308.out) hb); have n1_ := Aside0.mk (below_step (by repeat with_reducible first | exact HB.out | apply below_alloc | apply pw_below_drewN | apply below_drew1 | refine below_set ?_ GE308.out) hb); have n2_ := Aside0.mk (hbox); have n3_ := Aside0.mk ((by rw [hg]; exact (below_size (by repeat with_reducible first | exact HB.out | apply below_alloc | apply pw_below_drewN | apply below_drew1 | refine below_set ?_ GE308.out)) : w.heap.size ≤ gb309)); have n4_ := Aside0.mk ((by rw [hg]; exact (below_size (by repeat with_reducible first | exact HB.out | apply below_alloc | apply pw_below_drewN | apply below_drew1 | refine below_set ?_ GE308.out)) : w.heap.size ≤ gb309)); have n5_ := Aside0.mk ((by rw [hg]; exact Nat.ne_of_lt (blk_lt (g := gb308) (o := .cells #[.slice A0_0 l0_0.length c0_0] 24 (0, 0)) (by (with_reducible repeat (first | refine blk_drewN ?_ _ | refine blk_drew ?_ | refine blk_alloc ?_ _)); exact BK308.out)) : gb308 ≠ gb309)); have n6_ := Aside0.mk ((by rw [hg]; exact Nat.ne_of_gt (blk_lt (g := gb308) (o := .cells #[.slice A0_0 l0_0.length c0_0] 24 (0, 0)) (by (with_reducible repeat (first | refine blk_drewN ?_ _ | refine blk_drew ?_ | refine blk_alloc ?_ _)); exact BK308.out)) : gb309 ≠ gb308)); clear BK308; clear HB; have BK308 := n0_; have HB := n1_; have BK309 := n2_; have GW309 := n3_; have GE309 := n4_; have NB308_309 := n5_; have NB309_308 := n6_; clear n0_ n1_ n2_ n3_ n4_ n5_ n6_; clear hb hbox hg) | ((with_reducible refine gate_dst (N := 3) rfl ?_); refine box_event ?hg (N := 3) ?hd (cs := #[.slice none 0 0]) (t := 24) ?hr ?_; (case hd => rfl); (case hg => rfl); (case hr => first | (go_simp; done) | (go_simp; rfl)); intro gb310 hg w4 hbox hb; have n0_ := Aside0.mk (blk_below (g := gb308) (o := .cells #[.slice A0_0 l0_0.length c0_0] 24 (0, 0)) (by (with_reducible repeat (first | refine blk_drewN ?_ _ | refine blk_drew ?_ | refine blk_alloc ?_ _)); exact BK308.out) hb); have n1_ := Aside0.mk (blk_below (g := gb309) (o := .cells #[.slice none 0 0] 24 (0, 0)) (by (with_reducible repeat (first | refine blk_drewN ?_ _ | refine blk_drew ?_ | refine blk_alloc ?_ _)); exact BK309.out) hb); have n2_ := Aside0.mk (below_step (by repeat with_reducible first | exact HB.out | apply below_alloc | apply pw_below_drewN | apply below_drew1 | refine below_set ?_ GE308.out | refine below_set ?_ GE309.out) hb); have n3_ := Aside0.mk (hbox); have n4_ := Aside0.mk ((by rw [hg]; exact (below_size (by repeat with_reducible first | exact HB.out | apply below_alloc | apply pw_below_drewN | apply below_drew1 | refine below_set ?_ GE308.out | refine below_set ?_ GE309.out)) : w.heap.size ≤ gb310)); have n5_ := Aside0.mk ((by rw [hg]; exact (below_size (by repeat with_reducible first | exact HB.out | apply below_alloc | apply pw_below_drewN | apply below_drew1 | refine below_set ?_ GE308.out | refine below_set ?_ GE309.out)) : w.heap.size ≤ gb310)); have n6_ := Aside0.mk ((by rw [hg]; exact Nat.ne_of_lt (blk_lt (g := gb308) (o := .cells #[.slice A0_0 l0_0.length c0_0] 24 (0, 0)) (by (with_reducible repeat (first | refine blk_drewN ?_ _ | refine blk_drew ?_ | refine blk_alloc ?_ _)); exact BK308.out)) : gb308 ≠ gb310)); have n7_ := Aside0.mk ((by rw [hg]; exact Nat.ne_of_gt (blk_lt (g := gb308) (o := .cells #[.slice A0_0 l0_0.length c0_0] 24 (0, 0)) (by (with_reducible repeat (first | refine blk_drewN ?_ _ | refine blk_drew ?_ | refine blk_alloc ?_ _)); exact BK308.out)) : gb310 ≠ gb308)); have n8_ := Aside0.mk ((by rw [hg]; exact Nat.ne_of_lt (blk_lt (g := gb309) (o := .cells #[.slice none 0 0] 24 (0, 0)) (by (with_reducible repeat (first | refine blk_drewN ?_ _ | refine blk_drew ?_ | refine blk_alloc ?_ _)); exact BK309.out)) : gb309 ≠ gb310)); have n9_ := Aside0.mk ((by rw [hg]; exact Nat.ne_of_gt (blk_lt (g := gb309) (o := .cells #[.slice none 0 0] 24 (0, 0)) (by (with_reducible repeat (first | refine blk_drewN ?_ _ | refine blk_drew ?_ | refine blk_alloc ?_ _)); exact BK309.out)) : gb310 ≠ gb309)); clear BK308; clear BK309; clear HB; have BK308 := n0_; have BK309 := n1_; have HB := n2_; have BK310 := n3_; have GW310 := n4_; have GE310 := n5_; have NB308_310 := n6_; have NB310_308 := n7_; have NB309_310 := n8_; have NB310_309 := n9_; clear n0_ n1_ n2_ n3_ n4_ n5_ n6_ n7_ n8_ n9_; clear hb hbox hg))
  go_loopg [4] k (fun kq v4 w' => ∃ (x4_1 : Int) (x311000_1 : List (S50)) (u311000 : Value), v4 = .int .i64 x4_1 ∧ Aside0 (fettleref02_Copy.l0 kq x4_1 l0_0 x311000_1 = some r) ∧ Aside0 (kq ≤ k) ∧ Aside0 (Kd.R k50 50 w' w.heap.size (fun _ => True) u311000 x311000_1) ∧ Aside0 (w'.heap[gb308]? = some (.cells #[(.slice A0_0 l0_0.length c0_0)] 24 (0, 0))) ∧ Aside0 (w'.heap[gb309]? = some (.cells #[(.slice none 0 0)] 24 (0, 0))) ∧ Aside0 (w'.heap[gb310]? = some (.cells #[u311000] 24 (0, 0))) ∧ Aside0 (Below w.heap.size w w'))
  case atStart => exact ⟨(0), (([] : List (S50))), (.slice none 0 0), (by first | rfl | (simp; done) | (simp [*]; done)), H', ⟨Nat.le_refl _⟩, ⟨by first | exact Kd.R_nil _ _ _ _ _ | exact Kd.N_nil _ _ _ _ _ | exact Kd.V_nil _ _ _ _ _ | exact Kd.Q_nil _ _ _ _ _ | exact Kd.S_nil _ _ _ _ _⟩, ⟨by (with_reducible repeat (first | refine blk_drewN ?_ _ | refine blk_drew ?_ | refine blk_alloc ?_ _)); exact BK308.out⟩, ⟨by (with_reducible repeat (first | refine blk_drewN ?_ _ | refine blk_drew ?_ | refine blk_alloc ?_ _)); exact BK309.out⟩, ⟨by (with_reducible repeat (first | refine blk_drewN ?_ _ | refine blk_drew ?_ | refine blk_alloc ?_ _)); exact BK310.out⟩, ⟨by repeat (first | (with_reducible first | exact HB.out | apply below_alloc | apply pw_below_drewN | apply below_drew1 | refine below_set ?_ GE308.out | refine below_set ?_ GE309.out | refine below_set ?_ GE310.out) | exact HB.out)⟩⟩
  clear H'
  try clear c1
  try clear p2
  obtain ⟨x4_1, x311000_1, u311000, rfl, HA, HK1, HO_311000, BK308, BK309, BK310, HB⟩ := hrel
  rcases gk with _ | k1
  · exact absurd HA.out (by simp [fettleref02_Copy.l0])
  have H := HA.out
  clear HA
  simp only [fettleref02_Copy.l0] at H
  by_cases c5 : x4_1 < (l0_0.length : Int)
  · rw [if_pos c5] at H
    have c5b0 : decide (x4_1 < (l0_0.length : Int)) = true := decide_eq_true c5
    clear c5
    by_cases c6 : 0 ≤ x4_1
    rotate_left
    · rw [if_neg c6] at H
      exact absurd H (by simp)
    rw [if_pos c6] at H
    have c6b0 : decide (0 ≤ x4_1) = true := decide_eq_true c6
    clear c6
    replace H := Option.bind_eq_some_iff.mp H
    obtain ⟨⟨t312, t313, t314, t317⟩, A70, H⟩ := H
    replace H : (if x311000_1.length < 2199023255552 then (fettleref02_Copy.l0 k1 (wrap64 (x4_1 + 1)) l0_0 (x311000_1 ++ [(⟨t312, t313, t314, t317⟩ : S50)])) else (none)) = some r := H
    have A7 := Aside0.mk A70
    clear A70
    by_cases c8 : x311000_1.length < 2199023255552
    rotate_left
    · rw [if_neg c8] at H
      exact absurd H (by simp)
    rw [if_pos c8] at H
    have LMc8 := Aside0.mk c8
    clear c8
    obtain ⟨y320, hy320⟩ : ∃ y_ : List (S50), y_ = (x311000_1 ++ [(⟨t312, t313, t314, t317⟩ : S50)]) := ⟨_, rfl⟩
    replace H : (fettleref02_Copy.l0 k1 (wrap64 (x4_1 + 1)) l0_0 y320) = some r := by first | (rw [hy320]; with_reducible exact H) | (have H2_ := (Option.bind_some _ _).symm.trans H; rw [hy320]; with_reducible exact H2_) | exact H
    have Ny320 := Aside0.mk hy320
    clear hy320
    have H' := Aside0.mk H
    clear H
    have hnb9 := NB308_309.out
    have hnc9 := NB309_308.out
    have hnb10 := NB308_310.out
    have hnc10 := NB310_308.out
    have hcz11_0 : wr.cell? ⟨gb308, 0, none⟩ = some (.slice A0_0 l0_0.length c0_0) := (blk_cell BK308.out 0).trans rfl
    have hfz11_0 := blk_frozen BK308.out 0
    try go_wp2
    have n0_ := Aside0.mk (R_drew HO_311000.out)
    have n1_ := Aside0.mk (blk_drew BK308.out)
    have n2_ := Aside0.mk (blk_drew BK309.out)
    have n3_ := Aside0.mk (blk_drew BK310.out)
    have n4_ := Aside0.mk (below_drew1 HB.out)
    clear HO_311000
    clear BK308
    clear BK309
    clear BK310
    clear HB
    have HO_311000 := n0_
    have BK308 := n1_
    have BK309 := n2_
    have BK310 := n3_
    have HB := n4_
    clear n0_ n1_ n2_ n3_ n4_
    have p311 : 0 ≤ (x4_1 : Int) := of_decide_eq_true (by with_reducible assumption)
    have q311 : x4_1 < (l0_0.length : Int) := of_decide_eq_true (by with_reducible assumption)
    obtain ⟨ad311, A311_2, c311_2, A311_3, c311_3, e311, hx311_0, hx311_1, hx311_2, hx311_3, hl311_2, hi311_2, hl311_3, hi311_3⟩ := at_T50 HR0_0.out x4_1 p311 q311
    have hw311_3 := hx311_3
    have hw311_2 := hx311_2
    have hw311_1 := hx311_1
    have hw311_0 := hx311_0
    cases e311
    replace hx311_0 := (HB.out.cell (World.block_lt_of_cell? w _ hx311_0)).trans hx311_0
    replace hx311_1 := (HB.out.cell (World.block_lt_of_cell? w _ hx311_1)).trans hx311_1
    replace hx311_2 := (HB.out.cell (World.block_lt_of_cell? w _ hx311_2)).trans hx311_2
    replace hx311_3 := (HB.out.cell (World.block_lt_of_cell? w _ hx311_3)).trans hx311_3
    have HR311_2 := Aside0.mk hi311_2
    have HC311_2 := Aside0.mk hl311_2
    clear hi311_2 hl311_2
    have HR311_3 := Aside0.mk hi311_3
    have HC311_3 := Aside0.mk hl311_3
    clear hi311_3 hl311_3
    replace p311 := eq_true p311
    replace q311 := eq_true q311
    refine start_ (n := 12) (S := fun w' => w'.cell? ⟨gb310, 0, none⟩ = some (u311000) ∧ w'.cell? ⟨gb308, 0, none⟩ = some (.slice (some ad311) l0_0.length c0_0) ∧ w'.cell? (ad311.add ((x4_1).toNat * 4)) = some (.int .i64 ((rd_T50 l0_0 x4_1).f0)) ∧ w'.cell? ⟨(ad311.add ((x4_1).toNat * 4)).block, (ad311.add ((x4_1).toNat * 4)).off + 1, none⟩ = some (.int .i64 ((rd_T50 l0_0 x4_1).f1)) ∧ w'.cell? ⟨(ad311.add ((x4_1).toNat * 4)).block, (ad311.add ((x4_1).toNat * 4)).off + 2, none⟩ = some (.slice A311_2 ((rd_T50 l0_0 x4_1).f2).length c311_2) ∧ w'.cell? ⟨(ad311.add ((x4_1).toNat * 4)).block, (ad311.add ((x4_1).toNat * 4)).off + 3, none⟩ = some (.slice A311_3 ((rd_T50 l0_0 x4_1).f3).length c311_3)) (ds := [11]) #[false, false, false, false, false, false, false, false, false, false, false, false] (by kernel_rfl) rfl rfl ⟨(blk_cell BK310.out 0).trans rfl, (blk_cell BK308.out 0).trans rfl, ((HB.out.cell (World.block_lt_of_cell? w _ hw311_0)).trans hw311_0), ((HB.out.cell (World.block_lt_of_cell? w _ hw311_1)).trans hw311_1), ((HB.out.cell (World.block_lt_of_cell? w _ hw311_2)).trans hw311_2), ((HB.out.cell (World.block_lt_of_cell? w _ hw311_3)).trans hw311_3)⟩ (fun hHeld => ?_); refine with_tabW fettleref02_Copy.tab5 fettleref02_Copy.bits5 (fun HT_ HW_ => ?_)
    generalize wr.drew = w12 at HO_311000 BK308 BK309 BK310 HB HR311_2 HR311_3 hx311_0 hx311_1 hx311_2 hx311_3 hHeld ⊢
    refine pu 0 12 (bt 12 1) HT_.out ?_
    refine pu 2 14 (bt 12 5) HT_.out ?_
    refine pu 4 16 (bt 12 21) HT_.out ?_
    refine tk 1 13 (bt 12 23) HT_.out HW_.out hHeld rfl rfl (by rintro w' ⟨s0, s1, s2, s3, s4, s5⟩; go_simp; with_reducible rfl) ?_
    refine tk 3 15 (bt 12 31) HT_.out HW_.out hHeld rfl rfl (by rintro w' ⟨s0, s1, s2, s3, s4, s5⟩; go_simp; with_reducible rfl) ?_
    refine pu 5 17 (bt 12 63) HT_.out ?_
    refine tk 6 18 (bt 12 127) HT_.out HW_.out hHeld rfl rfl (by rintro w' ⟨s0, s1, s2, s3, s4, s5⟩; go_simp; with_reducible rfl) ?_
    refine one_ (i := 7) (N := some 19) (bt 12 255) rfl rfl (one_of HT_.out (by kernel_rfl)) (by decide) (fun K hK => ?_)
    refine goes_ Tryd.func39 (by kernel_rfl) rfl #[.agg #[.int .i64 ((rd_T50 l0_0 x4_1).f0), .int .i64 ((rd_T50 l0_0 x4_1).f1), .slice A311_2 ((rd_T50 l0_0 x4_1).f2).length c311_2, .slice A311_3 ((rd_T50 l0_0 x4_1).f3).length c311_3]] (by rfl) rfl rfl (by (try simp only [List.map_toArray, List.map_cons, List.map_nil]); first | done | rfl) ?_
    with_reducible refine (fettleref02_CopyFunc.calls k1 ((rd_T50 l0_0 x4_1).f0) ((rd_T50 l0_0 x4_1).f1) _ _ ((rd_T50 l0_0 x4_1).f2) _ _ ((rd_T50 l0_0 x4_1).f3) t312 t313 t314 t317 _ ?side1 ?side2 ?side3 ?side4 A7.out).mono ?_
    (case side1 => repeat (first | exact (C_below HR311_2.out HB.out) | (with_reducible refine C_alloc ?_ _) | (with_reducible refine C_drewN ?_ _) | (with_reducible refine C_drew ?_)))
    (case side2 => exact HC311_2.out)
    (case side3 => repeat (first | exact (C_below HR311_3.out HB.out) | (with_reducible refine C_alloc ?_ _) | (with_reducible refine C_drewN ?_ _) | (with_reducible refine C_drew ?_)))
    (case side4 => exact HC311_3.out)
    rintro e w13 ⟨v315, v318, rfl, ho0, ho1, hb⟩
    refine ⟨_, rfl, ?_⟩
    have n0_ := Aside0.mk (R_mono (Kd.R_told (Kd.R_told (Kd.R_old (by (with_reducible repeat (first | apply R_alloc | apply R_drewN | apply R_drew)); exact HO_311000.out) hb) (R_base ho0)) (R_base ho1)) (fun _ h_ => h_.1))
    have n1_ := Aside0.mk (Kd.R_lower ho0 (below_size (by repeat with_reducible first | exact HB.out | apply below_alloc | apply pw_below_drewN | apply below_drew1 | refine below_set ?_ GE308.out | refine below_set ?_ GE309.out | refine below_set ?_ GE310.out)))
    have n2_ := Aside0.mk (Kd.R_lower ho1 (below_size (by repeat with_reducible first | exact HB.out | apply below_alloc | apply pw_below_drewN | apply below_drew1 | refine below_set ?_ GE308.out | refine below_set ?_ GE309.out | refine below_set ?_ GE310.out)))
    have n3_ := Aside0.mk (blk_below (g := gb308) (o := .cells #[.slice (some ad311) l0_0.length c0_0] 24 (0, 0)) (by (with_reducible repeat (first | refine blk_drewN ?_ _ | refine blk_drew ?_ | refine blk_alloc ?_ _)); exact BK308.out) hb)
    have n4_ := Aside0.mk (blk_below (g := gb309) (o := .cells #[.slice none 0 0] 24 (0, 0)) (by (with_reducible repeat (first | refine blk_drewN ?_ _ | refine blk_drew ?_ | refine blk_alloc ?_ _)); exact BK309.out) hb)
    have n5_ := Aside0.mk (blk_below (g := gb310) (o := .cells #[u311000] 24 (0, 0)) (by (with_reducible repeat (first | refine blk_drewN ?_ _ | refine blk_drew ?_ | refine blk_alloc ?_ _)); exact BK310.out) hb)
    have n6_ := Aside0.mk (below_step (by repeat with_reducible first | exact HB.out | apply below_alloc | apply pw_below_drewN | apply below_drew1 | refine below_set ?_ GE308.out | refine below_set ?_ GE309.out | refine below_set ?_ GE310.out) hb)
    clear HO_311000
    clear BK308
    clear BK309
    clear BK310
    clear HB
    have HO_311000 := n0_
    have HO316 := n1_
    have HO319 := n2_
    have BK308 := n3_
    have BK309 := n4_
    have BK310 := n5_
    have HB := n6_
    clear n0_ n1_ n2_ n3_ n4_ n5_ n6_
    (try clear hb)
    (try clear hb2)
    (try clear hk)
    (try clear hi)
    (try clear ho0)
    (try clear ho1)
    obtain ⟨Ao15, co15, eo15⟩ := Kd.R_slice HO316.out
    (first | subst eo15 | (injection eo15 with f1_ f2_ f3_; have f4_ := f1_.symm; have f5_ := f3_.symm; clear f1_ f2_ f3_; subst f4_; subst f5_))
    obtain ⟨Ao16, co16, eo16⟩ := Kd.R_slice HO319.out
    (first | subst eo16 | (injection eo16 with f1_ f2_ f3_; have f4_ := f1_.symm; have f5_ := f3_.symm; clear f1_ f2_ f3_; subst f4_; subst f5_))
    refine hK.out _ _ ⟨(blk_cell BK310.out 0).trans rfl, (blk_cell BK308.out 0).trans rfl, ((HB.out.cell (World.block_lt_of_cell? w _ hw311_0)).trans hw311_0), ((HB.out.cell (World.block_lt_of_cell? w _ hw311_1)).trans hw311_1), ((HB.out.cell (World.block_lt_of_cell? w _ hw311_2)).trans hw311_2), ((HB.out.cell (World.block_lt_of_cell? w _ hw311_3)).trans hw311_3)⟩ (fun hHeld => ?_)
    clear hK K
    refine norm_ (a' := ?_) ?_ ?_
    rotate_left
    · show Act.put _ (some 19) _ = _
      simp only [Act.put, List.setIfInBounds_toArray, List.set_cons_zero, List.set_cons_succ, i64_w, i32_w]
      rfl
    refine one_ (i := 8) (N := some 20) (bt 12 511) rfl rfl (one_of HT_.out (by kernel_rfl)) (by decide) (fun K hK => ?_)
    refine value_ (w1 := ?_) (v := ?_) (by rfl) rfl ?_ ?_
    rotate_left 2
    · go_simp
      constructor
      · rfl
      rfl
    refine hK.out _ _ ⟨(blk_cell (blk_alloc BK310.out _) 0).trans rfl, (blk_cell (blk_alloc BK308.out _) 0).trans rfl, (World.cell?_alloc_lt _ _ _ (World.block_lt_of_cell? _ _ (((HB.out.cell (World.block_lt_of_cell? w _ hw311_0)).trans hw311_0)))).trans (((HB.out.cell (World.block_lt_of_cell? w _ hw311_0)).trans hw311_0)), (World.cell?_alloc_lt _ _ _ (World.block_lt_of_cell? _ _ (((HB.out.cell (World.block_lt_of_cell? w _ hw311_1)).trans hw311_1)))).trans (((HB.out.cell (World.block_lt_of_cell? w _ hw311_1)).trans hw311_1)), (World.cell?_alloc_lt _ _ _ (World.block_lt_of_cell? _ _ (((HB.out.cell (World.block_lt_of_cell? w _ hw311_2)).trans hw311_2)))).trans (((HB.out.cell (World.block_lt_of_cell? w _ hw311_2)).trans hw311_2)), (World.cell?_alloc_lt _ _ _ (World.block_lt_of_cell? _ _ (((HB.out.cell (World.block_lt_of_cell? w _ hw311_3)).trans hw311_3)))).trans (((HB.out.cell (World.block_lt_of_cell? w _ hw311_3)).trans hw311_3))⟩ (fun hHeld => ?_)
    clear hK K
    refine norm_ (a' := ?_) ?_ ?_
    rotate_left
    · show Act.put _ (some 20) _ = _
      simp only [Act.put, List.setIfInBounds_toArray, List.set_cons_zero, List.set_cons_succ, i64_w, i32_w]
      rfl
    refine one_ (i := 9) (N := some 21) (bt 12 1023) rfl rfl (one_of HT_.out (by kernel_rfl)) (by decide) (fun K hK => ?_)
    refine Kd.R_append_step k50 (w0 := w) w.heap.size (by rfl) (.tmp 13) (.tmp 20) 22 50 (.agg #[(.int .i64 0), (.int .i64 0), (.slice none 0 0), (.slice none 0 0)]) 64 rfl Tryd.underlying22 info50 rfl (by decide) (by omega) u311000 x311000_1 (⟨t312, t313, t314, t317⟩ : S50) [.int .i64 t312, .int .i64 t313, .slice Ao15 t314.length co15, .slice Ao16 t317.length co16] (fun _ => True) (fun k_ => ((fun _ => True)) k_ ∧ some k_ ≠ (u311000 : Value).ownBlock) rfl rfl ?aP (fun _ hk => hk) ?aF ?aO ?aB ?aS ?aL ?_
    (case aP => exact k50_mkM _ _ _ (⟨t312, t313, t314, t317⟩ : S50) (R_mono (Kd.R_apart' (HO316.out) (Kd.R_typed HO_311000.out) (by decide)) (fun k_ hk => ⟨trivial, hk.2⟩)) (R_mono (Kd.R_apart' (HO319.out) (Kd.R_typed HO_311000.out) (by decide)) (fun k_ hk => ⟨trivial, hk.2⟩)))
    (case aB => exact (by repeat with_reducible first | exact HB.out | apply below_alloc | apply pw_below_drewN | apply below_drew1 | refine below_set ?_ GE308.out | refine below_set ?_ GE309.out | refine below_set ?_ GE310.out))
    (case aF => exact (fun _ _ => trivial))
    (case aO => exact (by (with_reducible repeat (first | apply R_alloc | apply R_drewN | apply R_drew)); exact R_mono HO_311000.out (fun _ hk => trivial)))
    (case aS => exact (below_size (by repeat with_reducible first | exact HB.out | apply below_alloc | apply pw_below_drewN | apply below_drew1 | refine below_set ?_ GE308.out | refine below_set ?_ GE309.out | refine below_set ?_ GE310.out)))
    (case aL => have := LMc8.out; omega)
    intro v321 w14 ho hb hg hat
    rw [← Ny320.out] at ho
    have n0_ := Aside0.mk (blk_grown (g := gb308) (o := .cells #[.slice (some ad311) l0_0.length c0_0] 24 (0, 0)) (by (with_reducible repeat (first | refine blk_drewN ?_ _ | refine blk_drew ?_ | refine blk_alloc ?_ _)); exact BK308.out) hg (Kd.R_ne HO_311000.out BK308.out (by decide)))
    have n1_ := Aside0.mk (blk_grown (g := gb309) (o := .cells #[.slice none 0 0] 24 (0, 0)) (by (with_reducible repeat (first | refine blk_drewN ?_ _ | refine blk_drew ?_ | refine blk_alloc ?_ _)); exact BK309.out) hg (Kd.R_ne HO_311000.out BK309.out (by decide)))
    have n2_ := Aside0.mk (blk_grown (g := gb310) (o := .cells #[u311000] 24 (0, 0)) (by (with_reducible repeat (first | refine blk_drewN ?_ _ | refine blk_drew ?_ | refine blk_alloc ?_ _)); exact BK310.out) hg (Kd.R_ne HO_311000.out BK310.out (by decide)))
    have n3_ := Aside0.mk (hb)
    have n4_ := Aside0.mk (ho)
    clear BK308
    clear BK309
    clear BK310
    clear HB
    clear HO_311000
    clear HO316
    clear HO319
    have BK308 := n0_
    have BK309 := n1_
    have BK310 := n2_
    have HB := n3_
    have HO322 := n4_
    clear n0_ n1_ n2_ n3_ n4_
    clear ho hb hg hat
    obtain ⟨Ao17, co17, eo17⟩ := Kd.R_slice HO322.out
    (first | subst eo17 | (injection eo17 with f1_ f2_ f3_; have f4_ := f1_.symm; have f5_ := f3_.symm; clear f1_ f2_ f3_; subst f4_; subst f5_))
    refine hK.out _ _ ⟨(blk_cell BK310.out 0).trans rfl, (blk_cell BK308.out 0).trans rfl, ((HB.out.cell (World.block_lt_of_cell? w _ hw311_0)).trans hw311_0), ((HB.out.cell (World.block_lt_of_cell? w _ hw311_1)).trans hw311_1), ((HB.out.cell (World.block_lt_of_cell? w _ hw311_2)).trans hw311_2), ((HB.out.cell (World.block_lt_of_cell? w _ hw311_3)).trans hw311_3)⟩ (fun hHeld => ?_)
    clear hK K
    refine norm_ (a' := ?_) ?_ ?_
    rotate_left
    · show Act.put _ (some 21) _ = _
      simp only [Act.put, List.setIfInBounds_toArray, List.set_cons_zero, List.set_cons_succ, i64_w, i32_w]
      rfl
    refine pu 10 22 (bt 12 2047) HT_.out ?_
    refine last_ (i := 11) (N := none) (bt 12 4095) rfl rfl (one_of HT_.out (by kernel_rfl)) (by decide) (fun K hK => ?_)
    have hs18 : w14.cell? ⟨gb310, 0, none⟩ = some (u311000) := (blk_cell BK310.out 0).trans rfl
    have hfs18 := blk_frozen BK310.out 0
    have hns18_0 := NB308_310.out
    have hns18_1 := NB309_310.out
    have hms18_0 := NB310_308.out
    have hms18_1 := NB310_309.out
    refine skip_ (w1 := ?_) (by rfl) rfl ?_ ?_
    rotate_left
    · go_simp
      rfl
    refine hK.out _ _ ?_
    clear hK K
    refine done_ (done_of HT_.out (by kernel_rfl)) ?_
    try go_wp2
    go_roundg k1
    case measure => have := HK1.out; omega
    case rel => exact ⟨(wrap64 (x4_1 + 1)), (y320), (.slice Ao17 y320.length co17), (by first | rfl | (simp; done) | (simp [*]; done)), H', ⟨by have := HK1.out; omega⟩, ⟨by (with_reducible repeat (first | apply R_alloc | apply R_drewN | apply R_drew)); exact R_mono (Kd.R_far (p := ⟨gb310, 0, none⟩) (Kd.R_types HO322.out BK310.out (by decide)) (fun _ hk => hk.2) (.slice Ao17 y320.length co17)) (fun _ hk => trivial)⟩, ⟨by (with_reducible repeat (first | refine blk_drewN ?_ _ | refine blk_drew ?_ | refine blk_alloc ?_ _)); refine blk_far ?_ NB308_310.out _; (with_reducible repeat (first | refine blk_drewN ?_ _ | refine blk_drew ?_ | refine blk_alloc ?_ _)); exact BK308.out⟩, ⟨by (with_reducible repeat (first | refine blk_drewN ?_ _ | refine blk_drew ?_ | refine blk_alloc ?_ _)); refine blk_far ?_ NB309_310.out _; (with_reducible repeat (first | refine blk_drewN ?_ _ | refine blk_drew ?_ | refine blk_alloc ?_ _)); exact BK309.out⟩, ⟨by (with_reducible repeat (first | refine blk_drewN ?_ _ | refine blk_drew ?_ | refine blk_alloc ?_ _)); refine blk_put (cs := #[u311000]) ?_ 0 _ rfl; (with_reducible repeat (first | refine blk_drewN ?_ _ | refine blk_drew ?_ | refine blk_alloc ?_ _)); exact BK310.out⟩, ⟨by repeat (first | (with_reducible first | exact HB.out | apply below_alloc | apply pw_below_drewN | apply below_drew1 | refine below_set ?_ GE308.out | refine below_set ?_ GE309.out | refine below_set ?_ GE310.out) | exact HB.out)⟩⟩
  rw [if_neg c5] at H
  have c5b0 : decide (x4_1 < (l0_0.length : Int)) = false := decide_eq_false c5
  clear c5
  obtain rfl := Option.some.inj H
  have hnb19 := NB308_309.out
  have hnc19 := NB309_308.out
  have hnb20 := NB308_310.out
  have hnc20 := NB310_308.out
  have hcz21_0 : wr.cell? ⟨gb308, 0, none⟩ = some (.slice A0_0 l0_0.length c0_0) := (blk_cell BK308.out 0).trans rfl
  have hfz21_0 := blk_frozen BK308.out 0
  have hnb22 := NB310_309.out
  have hnc22 := NB309_310.out
  have hcz23_0 : wr.cell? ⟨gb310, 0, none⟩ = some (u311000) := (blk_cell BK310.out 0).trans rfl
  have hfz23_0 := blk_frozen BK310.out 0
  obtain ⟨Ao24, co24, eo24⟩ := Kd.R_slice HO_311000.out
  subst eo24
  have hcz25_0 : wr.cell? ⟨gb309, 0, none⟩ = some (.slice none 0 0) := (blk_cell BK309.out 0).trans rfl
  have hfz25_0 := blk_frozen BK309.out 0
  go_wp2
  refine bodyPost_ret (results_cell_row rfl _ _ gb309 24 #[.slice Ao24 x311000_1.length co24] (0, 0) _ rfl (by (with_reducible repeat (first | refine blk_drewN ?_ _ | refine blk_drew ?_ | refine blk_alloc ?_ _)); refine blk_put (cs := #[.slice none 0 0]) ?_ 0 _ rfl; (with_reducible repeat (first | refine blk_drewN ?_ _ | refine blk_drew ?_ | refine blk_alloc ?_ _)); exact BK309.out) Tryd.underlying24 rfl (by kernel_rfl)) rfl ?_
  exact ⟨_, by first | rfl | (simp [errW_none, errW_some] <;> rfl) | (simp [*, errW_none, errW_some] <;> rfl), by (with_reducible repeat (first | apply R_alloc | apply R_drewN | apply R_drew)); exact R_mono (Kd.R_far (p := ⟨gb309, 0, none⟩) (Kd.R_types HO_311000.out BK309.out (by decide)) (fun _ hk => hk.2) (.slice Ao24 x311000_1.length co24)) (fun _ hk => trivial), by repeat (first | (with_reducible first | exact HB.out | apply below_alloc | apply pw_below_drewN | apply below_drew1 | refine below_set ?_ GE308.out | refine below_set ?_ GE309.out | refine below_set ?_ GE310.out) | exact HB.out)⟩

-- NOT PRINTED: function 7 (fettlelaw03_CodeStays)

end Go.Proofs.YtckebppacealeaaDoor.PCodeUnlike
