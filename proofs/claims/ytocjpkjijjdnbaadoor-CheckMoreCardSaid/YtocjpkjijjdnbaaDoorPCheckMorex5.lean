-- Laid by a program of this session (wip/pp/patch.py over the kit's print).
import Derived.Test.YtocjpkjijjdnbaaDoorPCheckMorex0
import Derived.Test.YtocjpkjijjdnbaaDoorPCheckMorex4
import Derived.Test.YtocjpkjijjdnbaaDoorShort
namespace Go.Proofs.YtocjpkjijjdnbaaDoor.PCheckMore
open Go.Proofs.YtocjpkjijjdnbaaDoor.Short Go.RowKit Go.Proofs.YtocjpkjijjdnbaaDoorW.PrintWords Go.Proofs.YtocjpkjijjdnbaaDoorW.PrintLast Go.Proofs.YtocjpkjijjdnbaaDoorW.PrintMore Go.Proofs.YtocjpkjijjdnbaaDoorW.PrintWords.Kd
attribute [local go_sem] max2_int min2_int max_two min_two max_three min_three max_four min_four   -- for this text's walks alone
attribute [local go_sem] eqErr28 neErr28 nilErr28
set_option linter.unusedVariables false
set_option linter.unusedSimpArgs false

/-! ### fettleref02_Copy: function 7 -/
def fettleref02_Copy.l0 : Nat → Int → List (S34) → List (S34) → Option ((List (S34)))
  | 0, _, _, _ => none
  | k + 1, x4, x214000, x216000 => if x4 < (x214000.length : Int) then (if 0 ≤ x4 then ((fettleref02_CopyFunc.f k ((rd_T34 x214000 x4).f0) ((rd_T34 x214000 x4).f1) ((rd_T34 x214000 x4).f2) ((rd_T34 x214000 x4).f3)).bind fun bt217 => (if x216000.length < 2199023255552 then (fettleref02_Copy.l0 k (wrap64 (x4 + 1)) x214000 (x216000 ++ [(⟨bt217.1, bt217.2.1, bt217.2.2.1, bt217.2.2.2⟩ : S34)])) else (none))) else (none)) else (some x216000)
def fettleref02_Copy.f (k : Nat) (l0_0 : List (S34)) : Option ((List (S34))) := fettleref02_Copy.l0 k 0 l0_0 ([] : List (S34))
theorem fettleref02_Copy.mono_l : ∀ k, (∀ y0 y1 y2, LeO (fettleref02_Copy.l0 k y0 y1 y2) (fettleref02_Copy.l0 (k + 1) y0 y1 y2))
  | 0 => fun _ _ _ r h => by simp [fettleref02_Copy.l0] at h
  | k + 1 => by
    have ih0 := fettleref02_Copy.mono_l k
    · intro y0 y1 y2
      unfold fettleref02_Copy.l0
      repeat' first
      | (with_reducible exact ih0 _ _ _)
      | (with_reducible exact fettleref02_CopyFunc.mono _ _ _ _ _)
      | (with_reducible exact LeO.refl _)
      | (with_reducible exact LeO.none _)
      | (with_reducible refine LeO.ite ?_ ?_)
      | (with_reducible refine LeO.bind ?_ (fun _ => ?_))
      | exact ih0 _ _ _
      | exact fettleref02_CopyFunc.mono _ _ _ _ _
      | exact LeO.none _
      | refine LeO.ite ?_ ?_
      | refine LeO.bind ?_ (fun _ => ?_)
theorem fettleref02_Copy.mono : ∀ a0 k, LeO (fettleref02_Copy.f k a0) (fettleref02_Copy.f (k + 1) a0) := by
  intro a0 k
  have ih0 := fettleref02_Copy.mono_l k
  unfold fettleref02_Copy.f
  repeat' first
      | (with_reducible exact ih0 _ _ _)
      | (with_reducible exact fettleref02_CopyFunc.mono _ _ _ _ _)
      | (with_reducible exact LeO.refl _)
      | (with_reducible exact LeO.none _)
      | (with_reducible refine LeO.ite ?_ ?_)
      | (with_reducible refine LeO.bind ?_ (fun _ => ?_))
      | exact ih0 _ _ _
      | exact fettleref02_CopyFunc.mono _ _ _ _ _
      | exact LeO.none _
      | refine LeO.ite ?_ ?_
      | refine LeO.bind ?_ (fun _ => ?_)
def fettleref02_Copy.T5 : Bool × List (List Nat × List Nat) := (true, [([], []), ([0], [0]), ([], []), ([2], [2]), ([], []), ([3, 4], [3, 4]), ([5], [5]), ([6], [6]), ([7], [7]), ([1, 8, 7], [1, 8]), ([0, 1, 2, 3, 4, 5, 6, 7, 8, 9], []), ([10, 9, 9, 0, 1, 2, 3, 4, 5, 6, 7, 8, 9], [9, 10])])
def fettleref02_Copy.B5 : List Nat := [0, 1, 0, 4, 0, 28, 60, 124, 252, 511, 1023, 2047]
theorem fettleref02_Copy.tab5 : rtab .any (opsOf Tryd.f7 5) = fettleref02_Copy.T5 := by kernel_rfl
theorem fettleref02_Copy.bits5 : waitsOk fettleref02_Copy.T5.2 fettleref02_Copy.B5 = true := by kernel_rfl
set_option maxHeartbeats 8000000 in
set_option maxRecDepth 100000 in
theorem fettleref02_Copy.calls (k : Nat) (A0_0 : Option Addr) (c0_0 : Nat) (l0_0 : List (S34)) (r : List (S34)) (w : World) (hr0_0 : Kd.C k34 w A0_0 l0_0.length l0_0) (hc0_0 : l0_0.length ≤ c0_0) (h : fettleref02_Copy.f k l0_0 = some r) :
    Calls Tryd.prog 7 #[.agg #[.slice A0_0 l0_0.length c0_0]] w fun e w' => ∃ v0_ : Value, e = .returned (.agg #[v0_]) ∧ Kd.R k34 34 w' w.heap.size (fun _ => True) v0_ r ∧ Below w.heap.size w w' := by
  have hu24 := Tryd.underlying24
  have hu34 := Tryd.underlying34
  have HR0_0 := Aside0.mk hr0_0
  have HC0_0 := Aside0.mk hc0_0
  clear hr0_0 hc0_0
  have HB := Aside0.mk (Below.refl w.heap.size w)
  have H : (fettleref02_Copy.l0 k 0 l0_0 ([] : List (S34))) = some r := h
  clear h
  have H' := Aside0.mk H
  clear H
  go_enter Tryd.func7, Tryd.ntmps7
  go_wp2_with (first | ((with_reducible refine gate_dst (N := 1) rfl ?_); refine box_event ?hg (N := 1) ?hd (cs := #[.slice A0_0 l0_0.length c0_0]) (t := 24) ?hr ?_; (case hd => rfl); (case hg => rfl); (case hr => first | (go_simp; done) | (go_simp; rfl)); intro gb213 hg w2 hbox hb; have n0_ := Aside0.mk (below_step (by repeat with_reducible first | exact HB.out | apply below_alloc | apply pw_below_drewN | apply below_drew1) hb); have n1_ := Aside0.mk (hbox); have n2_ := Aside0.mk ((by rw [hg]; exact (below_size (by repeat with_reducible first | exact HB.out | apply below_alloc | apply pw_below_drewN | apply below_drew1)) : w.heap.size ≤ gb213)); have n3_ := Aside0.mk ((by rw [hg]; exact (below_size (by repeat with_reducible first | exact HB.out | apply below_alloc | apply pw_below_drewN | apply below_drew1)) : w.heap.size ≤ gb213)); clear HB; have HB := n0_; have BK213 := n1_; have GW213 := n2_; have GE213 := n3_; clear n0_ n1_ n2_ n3_; clear hb hbox hg) | ((with_reducible refine gate_dst (N := 2) rfl ?_); refine box_event ?hg (N := 2) ?hd (cs := #[.slice none 0 0]) (t := 24) ?hr ?_; (case hd => rfl); (case hg => rfl); (case hr => first | (go_simp; done) | (go_simp; rfl)); intro gb214 hg w3 hbox hb; have n0_ := Aside0.mk (blk_below (g := gb213) (o := .cells #[.slice A0_0 l0_0.length c0_0] 24 (0, 0)) (by (with_reducible repeat (first | refine blk_drewN ?_ _ | refine blk_drew ?_ | refine blk_alloc ?_ _)); exact BK213.out) hb); have n1_ := Aside0.mk (below_step (by repeat with_reducible first | exact HB.out | apply below_alloc | apply pw_below_drewN | apply below_drew1 | refine below_set ?_ GE213.out) hb); have n2_ := Aside0.mk (hbox); have n3_ := Aside0.mk ((by rw [hg]; exact (below_size (by repeat with_reducible first | exact HB.out | apply below_alloc | apply pw_below_drewN | apply below_drew1 | refine below_set ?_ GE213.out)) : w.heap.size ≤ gb214)); have n4_ := Aside0.mk ((by rw [hg]; exact (below_size (by repeat with_reducible first | exact HB.out | apply below_alloc | apply pw_below_drewN | apply below_drew1 | refine below_set ?_ GE213.out)) : w.heap.size ≤ gb214)); have n5_ := Aside0.mk ((by rw [hg]; exact Nat.ne_of_lt (blk_lt (g := gb213) (o := .cells #[.slice A0_0 l0_0.length c0_0] 24 (0, 0)) (by (with_reducible repeat (first | refine blk_drewN ?_ _ | refine blk_drew ?_ | refine blk_alloc ?_ _)); exact BK213.out)) : gb213 ≠ gb214)); have n6_ := Aside0.mk ((by rw [hg]; exact Nat.ne_of_gt (blk_lt (g := gb213) (o := .cells #[.slice A0_0 l0_0.length c0_0] 24 (0, 0)) (by (with_reducible repeat (first | refine blk_drewN ?_ _ | refine blk_drew ?_ | refine blk_alloc ?_ _)); exact BK213.out)) : gb214 ≠ gb213)); clear BK213; clear HB; have BK213 := n0_; have HB := n1_; have BK214 := n2_; have GW214 := n3_; have GE214 := n4_; have NB213_214 := n5_; have NB214_213 := n6_; clear n0_ n1_ n2_ n3_ n4_ n5_ n6_; clear hb hbox hg) | ((with_reducible refine gate_dst (N := 3) rfl ?_); refine box_event ?hg (N := 3) ?hd (cs := #[.slice none 0 0]) (t := 24) ?hr ?_; (case hd => rfl); (case hg => rfl); (case hr => first | (go_simp; done) | (go_simp; rfl)); intro gb215 hg w4 hbox hb; have n0_ := Aside0.mk (blk_below (g := gb213) (o := .cells #[.slice A0_0 l0_0.length c0_0] 24 (0, 0)) (by (with_reducible repeat (first | refine blk_drewN ?_ _ | refine blk_drew ?_ | refine blk_alloc ?_ _)); exact BK213.out) hb); have n1_ := Aside0.mk (blk_below (g := gb214) (o := .cells #[.slice none 0 0] 24 (0, 0)) (by (with_reducible repeat (first | refine blk_drewN ?_ _ | refine blk_drew ?_ | refine blk_alloc ?_ _)); exact BK214.out) hb); have n2_ := Aside0.mk (below_step (by repeat with_reducible first | exact HB.out | apply below_alloc | apply pw_below_drewN | apply below_drew1 | refine below_set ?_ GE213.out | refine below_set ?_ GE214.out) hb); have n3_ := Aside0.mk (hbox); have n4_ := Aside0.mk ((by rw [hg]; exact (below_size (by repeat with_reducible first | exact HB.out | apply below_alloc | apply pw_below_drewN | apply below_drew1 | refine below_set ?_ GE213.out | refine below_set ?_ GE214.out)) : w.heap.size ≤ gb215)); have n5_ := Aside0.mk ((by rw [hg]; exact (below_size (by repeat with_reducible first | exact HB.out | apply below_alloc | apply pw_below_drewN | apply below_drew1 | refine below_set ?_ GE213.out | refine below_set ?_ GE214.out)) : w.heap.size ≤ gb215)); have n6_ := Aside0.mk ((by rw [hg]; exact Nat.ne_of_lt (blk_lt (g := gb213) (o := .cells #[.slice A0_0 l0_0.length c0_0] 24 (0, 0)) (by (with_reducible repeat (first | refine blk_drewN ?_ _ | refine blk_drew ?_ | refine blk_alloc ?_ _)); exact BK213.out)) : gb213 ≠ gb215)); have n7_ := Aside0.mk ((by rw [hg]; exact Nat.ne_of_gt (blk_lt (g := gb213) (o := .cells #[.slice A0_0 l0_0.length c0_0] 24 (0, 0)) (by (with_reducible repeat (first | refine blk_drewN ?_ _ | refine blk_drew ?_ | refine blk_alloc ?_ _)); exact BK213.out)) : gb215 ≠ gb213)); have n8_ := Aside0.mk ((by rw [hg]; exact Nat.ne_of_lt (blk_lt (g := gb214) (o := .cells #[.slice none 0 0] 24 (0, 0)) (by (with_reducible repeat (first | refine blk_drewN ?_ _ | refine blk_drew ?_ | refine blk_alloc ?_ _)); exact BK214.out)) : gb214 ≠ gb215)); have n9_ := Aside0.mk ((by rw [hg]; exact Nat.ne_of_gt (blk_lt (g := gb214) (o := .cells #[.slice none 0 0] 24 (0, 0)) (by (with_reducible repeat (first | refine blk_drewN ?_ _ | refine blk_drew ?_ | refine blk_alloc ?_ _)); exact BK214.out)) : gb215 ≠ gb214)); clear BK213; clear BK214; clear HB; have BK213 := n0_; have BK214 := n1_; have HB := n2_; have BK215 := n3_; have GW215 := n4_; have GE215 := n5_; have NB213_215 := n6_; have NB215_213 := n7_; have NB214_215 := n8_; have NB215_214 := n9_; clear n0_ n1_ n2_ n3_ n4_ n5_ n6_ n7_ n8_ n9_; clear hb hbox hg))
  go_loopg [4] k (fun kq v4 w' => ∃ (x4_1 : Int) (x216000_1 : List (S34)) (u216000 : Value), v4 = .int .i64 x4_1 ∧ Aside0 (fettleref02_Copy.l0 kq x4_1 l0_0 x216000_1 = some r) ∧ Aside0 (kq ≤ k) ∧ Aside0 (Kd.R k34 34 w' w.heap.size (fun _ => True) u216000 x216000_1) ∧ Aside0 (w'.heap[gb213]? = some (.cells #[(.slice A0_0 l0_0.length c0_0)] 24 (0, 0))) ∧ Aside0 (w'.heap[gb214]? = some (.cells #[(.slice none 0 0)] 24 (0, 0))) ∧ Aside0 (w'.heap[gb215]? = some (.cells #[u216000] 24 (0, 0))) ∧ Aside0 (Below w.heap.size w w'))
  case atStart => exact ⟨(0), (([] : List (S34))), (.slice none 0 0), (by first | rfl | (simp; done) | (simp [*]; done)), H', ⟨Nat.le_refl _⟩, ⟨by first | exact Kd.R_nil _ _ _ _ _ | exact Kd.N_nil _ _ _ _ _ | exact Kd.V_nil _ _ _ _ _ | exact Kd.Q_nil _ _ _ _ _ | exact Kd.S_nil _ _ _ _ _⟩, ⟨by (with_reducible repeat (first | refine blk_drewN ?_ _ | refine blk_drew ?_ | refine blk_alloc ?_ _)); exact BK213.out⟩, ⟨by (with_reducible repeat (first | refine blk_drewN ?_ _ | refine blk_drew ?_ | refine blk_alloc ?_ _)); exact BK214.out⟩, ⟨by (with_reducible repeat (first | refine blk_drewN ?_ _ | refine blk_drew ?_ | refine blk_alloc ?_ _)); exact BK215.out⟩, ⟨by repeat (first | (with_reducible first | exact HB.out | apply below_alloc | apply pw_below_drewN | apply below_drew1 | refine below_set ?_ GE213.out | refine below_set ?_ GE214.out | refine below_set ?_ GE215.out) | exact HB.out)⟩⟩
  clear H'
  try clear p2
  obtain ⟨x4_1, x216000_1, u216000, rfl, HA, HK1, HO_216000, BK213, BK214, BK215, HB⟩ := hrel
  rcases gk with _ | k1
  · exact absurd HA.out (by simp [fettleref02_Copy.l0])
  have H := HA.out
  clear HA
  simp only [fettleref02_Copy.l0] at H
  by_cases c5 : x4_1 < (l0_0.length : Int)
  · rw [if_pos c5] at H
    have c5b0 : decide (x4_1 < (l0_0.length : Int)) = true := decide_eq_true c5
    clear c5
    by_cases c6 : 0 ≤ x4_1
    rotate_left
    · rw [if_neg c6] at H
      exact absurd H (by simp)
    rw [if_pos c6] at H
    have c6b0 : decide (0 ≤ x4_1) = true := decide_eq_true c6
    clear c6
    replace H := Option.bind_eq_some_iff.mp H
    obtain ⟨⟨t217, t218, t219, t222⟩, A70, H⟩ := H
    replace H : (if x216000_1.length < 2199023255552 then (fettleref02_Copy.l0 k1 (wrap64 (x4_1 + 1)) l0_0 (x216000_1 ++ [(⟨t217, t218, t219, t222⟩ : S34)])) else (none)) = some r := H
    have A7 := Aside0.mk A70
    clear A70
    by_cases c8 : x216000_1.length < 2199023255552
    rotate_left
    · rw [if_neg c8] at H
      exact absurd H (by simp)
    rw [if_pos c8] at H
    have LMc8 := Aside0.mk c8
    clear c8
    obtain ⟨y225, hy225⟩ : ∃ y_ : List (S34), y_ = (x216000_1 ++ [(⟨t217, t218, t219, t222⟩ : S34)]) := ⟨_, rfl⟩
    replace H : (fettleref02_Copy.l0 k1 (wrap64 (x4_1 + 1)) l0_0 y225) = some r := by first | (rw [hy225]; with_reducible exact H) | (have H2_ := (Option.bind_some _ _).symm.trans H; rw [hy225]; with_reducible exact H2_) | exact H
    have Ny225 := Aside0.mk hy225
    clear hy225
    have H' := Aside0.mk H
    clear H
    have hnb9 := NB213_214.out
    have hnc9 := NB214_213.out
    have hnb10 := NB213_215.out
    have hnc10 := NB215_213.out
    have hcz11_0 : wr.cell? ⟨gb213, 0, none⟩ = some (.slice A0_0 l0_0.length c0_0) := (blk_cell BK213.out 0).trans rfl
    have hfz11_0 := blk_frozen BK213.out 0
    try go_wp2
    have n0_ := Aside0.mk (R_drew HO_216000.out)
    have n1_ := Aside0.mk (blk_drew BK213.out)
    have n2_ := Aside0.mk (blk_drew BK214.out)
    have n3_ := Aside0.mk (blk_drew BK215.out)
    have n4_ := Aside0.mk (below_drew1 HB.out)
    clear HO_216000
    clear BK213
    clear BK214
    clear BK215
    clear HB
    have HO_216000 := n0_
    have BK213 := n1_
    have BK214 := n2_
    have BK215 := n3_
    have HB := n4_
    clear n0_ n1_ n2_ n3_ n4_
    have p216 : 0 ≤ (x4_1 : Int) := of_decide_eq_true (by with_reducible assumption)
    have q216 : x4_1 < (l0_0.length : Int) := of_decide_eq_true (by with_reducible assumption)
    obtain ⟨ad216, A216_2, c216_2, A216_3, c216_3, e216, hx216_0, hx216_1, hx216_2, hx216_3, hl216_2, hi216_2, hl216_3, hi216_3⟩ := at_T34 HR0_0.out x4_1 p216 q216
    have hw216_3 := hx216_3
    have hw216_2 := hx216_2
    have hw216_1 := hx216_1
    have hw216_0 := hx216_0
    cases e216
    replace hx216_0 := (HB.out.cell (World.block_lt_of_cell? w _ hx216_0)).trans hx216_0
    replace hx216_1 := (HB.out.cell (World.block_lt_of_cell? w _ hx216_1)).trans hx216_1
    replace hx216_2 := (HB.out.cell (World.block_lt_of_cell? w _ hx216_2)).trans hx216_2
    replace hx216_3 := (HB.out.cell (World.block_lt_of_cell? w _ hx216_3)).trans hx216_3
    have HR216_2 := Aside0.mk hi216_2
    have HC216_2 := Aside0.mk hl216_2
    clear hi216_2 hl216_2
    have HR216_3 := Aside0.mk hi216_3
    have HC216_3 := Aside0.mk hl216_3
    clear hi216_3 hl216_3
    replace p216 := eq_true p216
    replace q216 := eq_true q216
    refine start_ (n := 12) (S := fun w' => w'.cell? ⟨gb215, 0, none⟩ = some (u216000) ∧ w'.cell? ⟨gb213, 0, none⟩ = some (.slice (some ad216) l0_0.length c0_0) ∧ w'.cell? (ad216.add ((x4_1).toNat * 4)) = some (.int .i64 ((rd_T34 l0_0 x4_1).f0)) ∧ w'.cell? ⟨(ad216.add ((x4_1).toNat * 4)).block, (ad216.add ((x4_1).toNat * 4)).off + 1, none⟩ = some (.int .i64 ((rd_T34 l0_0 x4_1).f1)) ∧ w'.cell? ⟨(ad216.add ((x4_1).toNat * 4)).block, (ad216.add ((x4_1).toNat * 4)).off + 2, none⟩ = some (.slice A216_2 ((rd_T34 l0_0 x4_1).f2).length c216_2) ∧ w'.cell? ⟨(ad216.add ((x4_1).toNat * 4)).block, (ad216.add ((x4_1).toNat * 4)).off + 3, none⟩ = some (.slice A216_3 ((rd_T34 l0_0 x4_1).f3).length c216_3)) (ds := [11]) #[false, false, false, false, false, false, false, false, false, false, false, false] (by kernel_rfl) rfl rfl ⟨(blk_cell BK215.out 0).trans rfl, (blk_cell BK213.out 0).trans rfl, ((HB.out.cell (World.block_lt_of_cell? w _ hw216_0)).trans hw216_0), ((HB.out.cell (World.block_lt_of_cell? w _ hw216_1)).trans hw216_1), ((HB.out.cell (World.block_lt_of_cell? w _ hw216_2)).trans hw216_2), ((HB.out.cell (World.block_lt_of_cell? w _ hw216_3)).trans hw216_3)⟩ (fun hHeld => ?_); refine with_tabW fettleref02_Copy.tab5 fettleref02_Copy.bits5 (fun HT_ HW_ => ?_)
    generalize wr.drew = w12 at HO_216000 BK213 BK214 BK215 HB HR216_2 HR216_3 hx216_0 hx216_1 hx216_2 hx216_3 hHeld ⊢
    refine pu 0 12 (bt 12 1) HT_.out ?_
    refine pu 2 14 (bt 12 5) HT_.out ?_
    refine pu 4 16 (bt 12 21) HT_.out ?_
    refine tk 1 13 (bt 12 23) HT_.out HW_.out hHeld rfl rfl (by rintro w' ⟨s0, s1, s2, s3, s4, s5⟩; go_simp; with_reducible rfl) ?_
    refine tk 3 15 (bt 12 31) HT_.out HW_.out hHeld rfl rfl (by rintro w' ⟨s0, s1, s2, s3, s4, s5⟩; go_simp; with_reducible rfl) ?_
    refine pu 5 17 (bt 12 63) HT_.out ?_
    refine tk 6 18 (bt 12 127) HT_.out HW_.out hHeld rfl rfl (by rintro w' ⟨s0, s1, s2, s3, s4, s5⟩; go_simp; with_reducible rfl) ?_
    refine one_ (i := 7) (N := some 19) (bt 12 255) rfl rfl (one_of HT_.out (by kernel_rfl)) (by decide) (fun K hK => ?_)
    refine goes_ Tryd.func10 (by kernel_rfl) rfl #[.agg #[.int .i64 ((rd_T34 l0_0 x4_1).f0), .int .i64 ((rd_T34 l0_0 x4_1).f1), .slice A216_2 ((rd_T34 l0_0 x4_1).f2).length c216_2, .slice A216_3 ((rd_T34 l0_0 x4_1).f3).length c216_3]] (by rfl) rfl rfl (by (try simp only [List.map_toArray, List.map_cons, List.map_nil]); first | done | rfl) ?_
    with_reducible refine (fettleref02_CopyFunc.calls k1 ((rd_T34 l0_0 x4_1).f0) ((rd_T34 l0_0 x4_1).f1) _ _ ((rd_T34 l0_0 x4_1).f2) _ _ ((rd_T34 l0_0 x4_1).f3) t217 t218 t219 t222 _ ?side1 ?side2 ?side3 ?side4 A7.out).mono ?_
    (case side1 => repeat (first | exact (C_below HR216_2.out HB.out) | (with_reducible refine C_alloc ?_ _) | (with_reducible refine C_drewN ?_ _) | (with_reducible refine C_drew ?_)))
    (case side2 => exact HC216_2.out)
    (case side3 => repeat (first | exact (C_below HR216_3.out HB.out) | (with_reducible refine C_alloc ?_ _) | (with_reducible refine C_drewN ?_ _) | (with_reducible refine C_drew ?_)))
    (case side4 => exact HC216_3.out)
    rintro e w13 ⟨v220, v223, rfl, ho0, ho1, hb⟩
    refine ⟨_, rfl, ?_⟩
    have n0_ := Aside0.mk (R_mono (Kd.R_told (Kd.R_told (Kd.R_old (by (with_reducible repeat (first | apply R_alloc | apply R_drewN | apply R_drew)); exact HO_216000.out) hb) (R_base ho0)) (R_base ho1)) (fun _ h_ => h_.1))
    have n1_ := Aside0.mk (Kd.R_lower ho0 (below_size (by repeat with_reducible first | exact HB.out | apply below_alloc | apply pw_below_drewN | apply below_drew1 | refine below_set ?_ GE213.out | refine below_set ?_ GE214.out | refine below_set ?_ GE215.out)))
    have n2_ := Aside0.mk (Kd.R_lower ho1 (below_size (by repeat with_reducible first | exact HB.out | apply below_alloc | apply pw_below_drewN | apply below_drew1 | refine below_set ?_ GE213.out | refine below_set ?_ GE214.out | refine below_set ?_ GE215.out)))
    have n3_ := Aside0.mk (blk_below (g := gb213) (o := .cells #[.slice (some ad216) l0_0.length c0_0] 24 (0, 0)) (by (with_reducible repeat (first | refine blk_drewN ?_ _ | refine blk_drew ?_ | refine blk_alloc ?_ _)); exact BK213.out) hb)
    have n4_ := Aside0.mk (blk_below (g := gb214) (o := .cells #[.slice none 0 0] 24 (0, 0)) (by (with_reducible repeat (first | refine blk_drewN ?_ _ | refine blk_drew ?_ | refine blk_alloc ?_ _)); exact BK214.out) hb)
    have n5_ := Aside0.mk (blk_below (g := gb215) (o := .cells #[u216000] 24 (0, 0)) (by (with_reducible repeat (first | refine blk_drewN ?_ _ | refine blk_drew ?_ | refine blk_alloc ?_ _)); exact BK215.out) hb)
    have n6_ := Aside0.mk (below_step (by repeat with_reducible first | exact HB.out | apply below_alloc | apply pw_below_drewN | apply below_drew1 | refine below_set ?_ GE213.out | refine below_set ?_ GE214.out | refine below_set ?_ GE215.out) hb)
    clear HO_216000
    clear BK213
    clear BK214
    clear BK215
    clear HB
    have HO_216000 := n0_
    have HO221 := n1_
    have HO224 := n2_
    have BK213 := n3_
    have BK214 := n4_
    have BK215 := n5_
    have HB := n6_
    clear n0_ n1_ n2_ n3_ n4_ n5_ n6_
    (try clear hb)
    (try clear hb2)
    (try clear hk)
    (try clear hi)
    (try clear ho0)
    (try clear ho1)
    obtain ⟨Ao15, co15, eo15⟩ := Kd.R_slice HO221.out
    (first | subst eo15 | (injection eo15 with f1_ f2_ f3_; have f4_ := f1_.symm; have f5_ := f3_.symm; clear f1_ f2_ f3_; subst f4_; subst f5_))
    obtain ⟨Ao16, co16, eo16⟩ := Kd.R_slice HO224.out
    (first | subst eo16 | (injection eo16 with f1_ f2_ f3_; have f4_ := f1_.symm; have f5_ := f3_.symm; clear f1_ f2_ f3_; subst f4_; subst f5_))
    refine hK.out _ _ ⟨(blk_cell BK215.out 0).trans rfl, (blk_cell BK213.out 0).trans rfl, ((HB.out.cell (World.block_lt_of_cell? w _ hw216_0)).trans hw216_0), ((HB.out.cell (World.block_lt_of_cell? w _ hw216_1)).trans hw216_1), ((HB.out.cell (World.block_lt_of_cell? w _ hw216_2)).trans hw216_2), ((HB.out.cell (World.block_lt_of_cell? w _ hw216_3)).trans hw216_3)⟩ (fun hHeld => ?_)
    clear hK K
    refine norm_ (a' := ?_) ?_ ?_
    rotate_left
    · show Act.put _ (some 19) _ = _
      simp only [Act.put, List.setIfInBounds_toArray, List.set_cons_zero, List.set_cons_succ, i64_w, i32_w]
      rfl
    refine one_ (i := 8) (N := some 20) (bt 12 511) rfl rfl (one_of HT_.out (by kernel_rfl)) (by decide) (fun K hK => ?_)
    refine value_ (w1 := ?_) (v := ?_) (by rfl) rfl ?_ ?_
    rotate_left 2
    · go_simp
      constructor
      · rfl
      rfl
    refine hK.out _ _ ⟨(blk_cell (blk_alloc BK215.out _) 0).trans rfl, (blk_cell (blk_alloc BK213.out _) 0).trans rfl, (World.cell?_alloc_lt _ _ _ (World.block_lt_of_cell? _ _ (((HB.out.cell (World.block_lt_of_cell? w _ hw216_0)).trans hw216_0)))).trans (((HB.out.cell (World.block_lt_of_cell? w _ hw216_0)).trans hw216_0)), (World.cell?_alloc_lt _ _ _ (World.block_lt_of_cell? _ _ (((HB.out.cell (World.block_lt_of_cell? w _ hw216_1)).trans hw216_1)))).trans (((HB.out.cell (World.block_lt_of_cell? w _ hw216_1)).trans hw216_1)), (World.cell?_alloc_lt _ _ _ (World.block_lt_of_cell? _ _ (((HB.out.cell (World.block_lt_of_cell? w _ hw216_2)).trans hw216_2)))).trans (((HB.out.cell (World.block_lt_of_cell? w _ hw216_2)).trans hw216_2)), (World.cell?_alloc_lt _ _ _ (World.block_lt_of_cell? _ _ (((HB.out.cell (World.block_lt_of_cell? w _ hw216_3)).trans hw216_3)))).trans (((HB.out.cell (World.block_lt_of_cell? w _ hw216_3)).trans hw216_3))⟩ (fun hHeld => ?_)
    clear hK K
    refine norm_ (a' := ?_) ?_ ?_
    rotate_left
    · show Act.put _ (some 20) _ = _
      simp only [Act.put, List.setIfInBounds_toArray, List.set_cons_zero, List.set_cons_succ, i64_w, i32_w]
      rfl
    refine one_ (i := 9) (N := some 21) (bt 12 1023) rfl rfl (one_of HT_.out (by kernel_rfl)) (by decide) (fun K hK => ?_)
    refine Kd.R_append_step k34 (w0 := w) w.heap.size (by rfl) (.tmp 13) (.tmp 20) 22 34 (.agg #[(.int .i64 0), (.int .i64 0), (.slice none 0 0), (.slice none 0 0)]) 64 rfl Tryd.underlying22 info34 rfl (by decide) (by omega) u216000 x216000_1 (⟨t217, t218, t219, t222⟩ : S34) [.int .i64 t217, .int .i64 t218, .slice Ao15 t219.length co15, .slice Ao16 t222.length co16] (fun _ => True) (fun k_ => ((fun _ => True)) k_ ∧ some k_ ≠ (u216000 : Value).ownBlock) rfl rfl ?aP (fun _ hk => hk) ?aF ?aO ?aB ?aS ?aL ?_
    (case aP => exact k34_mkM _ _ _ (⟨t217, t218, t219, t222⟩ : S34) (R_mono (Kd.R_apart' (HO221.out) (Kd.R_typed HO_216000.out) (by decide)) (fun k_ hk => ⟨trivial, hk.2⟩)) (R_mono (Kd.R_apart' (HO224.out) (Kd.R_typed HO_216000.out) (by decide)) (fun k_ hk => ⟨trivial, hk.2⟩)))
    (case aB => exact (by repeat with_reducible first | exact HB.out | apply below_alloc | apply pw_below_drewN | apply below_drew1 | refine below_set ?_ GE213.out | refine below_set ?_ GE214.out | refine below_set ?_ GE215.out))
    (case aF => exact (fun _ _ => trivial))
    (case aO => exact (by (with_reducible repeat (first | apply R_alloc | apply R_drewN | apply R_drew)); exact R_mono HO_216000.out (fun _ hk => trivial)))
    (case aS => exact (below_size (by repeat with_reducible first | exact HB.out | apply below_alloc | apply pw_below_drewN | apply below_drew1 | refine below_set ?_ GE213.out | refine below_set ?_ GE214.out | refine below_set ?_ GE215.out)))
    (case aL => have := LMc8.out; omega)
    intro v226 w14 ho hb hg hat
    rw [← Ny225.out] at ho
    have n0_ := Aside0.mk (blk_grown (g := gb213) (o := .cells #[.slice (some ad216) l0_0.length c0_0] 24 (0, 0)) (by (with_reducible repeat (first | refine blk_drewN ?_ _ | refine blk_drew ?_ | refine blk_alloc ?_ _)); exact BK213.out) hg (Kd.R_ne HO_216000.out BK213.out (by decide)))
    have n1_ := Aside0.mk (blk_grown (g := gb214) (o := .cells #[.slice none 0 0] 24 (0, 0)) (by (with_reducible repeat (first | refine blk_drewN ?_ _ | refine blk_drew ?_ | refine blk_alloc ?_ _)); exact BK214.out) hg (Kd.R_ne HO_216000.out BK214.out (by decide)))
    have n2_ := Aside0.mk (blk_grown (g := gb215) (o := .cells #[u216000] 24 (0, 0)) (by (with_reducible repeat (first | refine blk_drewN ?_ _ | refine blk_drew ?_ | refine blk_alloc ?_ _)); exact BK215.out) hg (Kd.R_ne HO_216000.out BK215.out (by decide)))
    have n3_ := Aside0.mk (hb)
    have n4_ := Aside0.mk (ho)
    clear BK213
    clear BK214
    clear BK215
    clear HB
    clear HO_216000
    clear HO221
    clear HO224
    have BK213 := n0_
    have BK214 := n1_
    have BK215 := n2_
    have HB := n3_
    have HO227 := n4_
    clear n0_ n1_ n2_ n3_ n4_
    clear ho hb hg hat
    obtain ⟨Ao17, co17, eo17⟩ := Kd.R_slice HO227.out
    (first | subst eo17 | (injection eo17 with f1_ f2_ f3_; have f4_ := f1_.symm; have f5_ := f3_.symm; clear f1_ f2_ f3_; subst f4_; subst f5_))
    refine hK.out _ _ ⟨(blk_cell BK215.out 0).trans rfl, (blk_cell BK213.out 0).trans rfl, ((HB.out.cell (World.block_lt_of_cell? w _ hw216_0)).trans hw216_0), ((HB.out.cell (World.block_lt_of_cell? w _ hw216_1)).trans hw216_1), ((HB.out.cell (World.block_lt_of_cell? w _ hw216_2)).trans hw216_2), ((HB.out.cell (World.block_lt_of_cell? w _ hw216_3)).trans hw216_3)⟩ (fun hHeld => ?_)
    clear hK K
    refine norm_ (a' := ?_) ?_ ?_
    rotate_left
    · show Act.put _ (some 21) _ = _
      simp only [Act.put, List.setIfInBounds_toArray, List.set_cons_zero, List.set_cons_succ, i64_w, i32_w]
      rfl
    refine pu 10 22 (bt 12 2047) HT_.out ?_
    refine last_ (i := 11) (N := none) (bt 12 4095) rfl rfl (one_of HT_.out (by kernel_rfl)) (by decide) (fun K hK => ?_)
    have hs18 : w14.cell? ⟨gb215, 0, none⟩ = some (u216000) := (blk_cell BK215.out 0).trans rfl
    have hfs18 := blk_frozen BK215.out 0
    have hns18_0 := NB213_215.out
    have hns18_1 := NB214_215.out
    have hms18_0 := NB215_213.out
    have hms18_1 := NB215_214.out
    refine skip_ (w1 := ?_) (by rfl) rfl ?_ ?_
    rotate_left
    · go_simp
      rfl
    refine hK.out _ _ ?_
    clear hK K
    refine done_ (done_of HT_.out (by kernel_rfl)) ?_
    try go_wp2
    go_roundg k1
    case measure => have := HK1.out; omega
    case rel => exact ⟨(wrap64 (x4_1 + 1)), (y225), (.slice Ao17 y225.length co17), (by first | rfl | (simp; done) | (simp [*]; done)), H', ⟨by have := HK1.out; omega⟩, ⟨by (with_reducible repeat (first | apply R_alloc | apply R_drewN | apply R_drew)); exact R_mono (Kd.R_far (p := ⟨gb215, 0, none⟩) (Kd.R_types HO227.out BK215.out (by decide)) (fun _ hk => hk.2) (.slice Ao17 y225.length co17)) (fun _ hk => trivial)⟩, ⟨by (with_reducible repeat (first | refine blk_drewN ?_ _ | refine blk_drew ?_ | refine blk_alloc ?_ _)); refine blk_far ?_ NB213_215.out _; (with_reducible repeat (first | refine blk_drewN ?_ _ | refine blk_drew ?_ | refine blk_alloc ?_ _)); exact BK213.out⟩, ⟨by (with_reducible repeat (first | refine blk_drewN ?_ _ | refine blk_drew ?_ | refine blk_alloc ?_ _)); refine blk_far ?_ NB214_215.out _; (with_reducible repeat (first | refine blk_drewN ?_ _ | refine blk_drew ?_ | refine blk_alloc ?_ _)); exact BK214.out⟩, ⟨by (with_reducible repeat (first | refine blk_drewN ?_ _ | refine blk_drew ?_ | refine blk_alloc ?_ _)); refine blk_put (cs := #[u216000]) ?_ 0 _ rfl; (with_reducible repeat (first | refine blk_drewN ?_ _ | refine blk_drew ?_ | refine blk_alloc ?_ _)); exact BK215.out⟩, ⟨by repeat (first | (with_reducible first | exact HB.out | apply below_alloc | apply pw_below_drewN | apply below_drew1 | refine below_set ?_ GE213.out | refine below_set ?_ GE214.out | refine below_set ?_ GE215.out) | exact HB.out)⟩⟩
  rw [if_neg c5] at H
  have c5b0 : decide (x4_1 < (l0_0.length : Int)) = false := decide_eq_false c5
  clear c5
  obtain rfl := Option.some.inj H
  have hnb19 := NB213_214.out
  have hnc19 := NB214_213.out
  have hnb20 := NB213_215.out
  have hnc20 := NB215_213.out
  have hcz21_0 : wr.cell? ⟨gb213, 0, none⟩ = some (.slice A0_0 l0_0.length c0_0) := (blk_cell BK213.out 0).trans rfl
  have hfz21_0 := blk_frozen BK213.out 0
  have hnb22 := NB215_214.out
  have hnc22 := NB214_215.out
  have hcz23_0 : wr.cell? ⟨gb215, 0, none⟩ = some (u216000) := (blk_cell BK215.out 0).trans rfl
  have hfz23_0 := blk_frozen BK215.out 0
  obtain ⟨Ao24, co24, eo24⟩ := Kd.R_slice HO_216000.out
  subst eo24
  have hcz25_0 : wr.cell? ⟨gb214, 0, none⟩ = some (.slice none 0 0) := (blk_cell BK214.out 0).trans rfl
  have hfz25_0 := blk_frozen BK214.out 0
  go_wp2
  refine bodyPost_ret (results_cell_row rfl _ _ gb214 24 #[.slice Ao24 x216000_1.length co24] (0, 0) _ rfl (by (with_reducible repeat (first | refine blk_drewN ?_ _ | refine blk_drew ?_ | refine blk_alloc ?_ _)); refine blk_put (cs := #[.slice none 0 0]) ?_ 0 _ rfl; (with_reducible repeat (first | refine blk_drewN ?_ _ | refine blk_drew ?_ | refine blk_alloc ?_ _)); exact BK214.out) Tryd.underlying24 rfl (by kernel_rfl)) rfl ?_
  exact ⟨_, by first | rfl | (simp [errW_none, errW_some] <;> rfl) | (simp [*, errW_none, errW_some] <;> rfl), by (with_reducible repeat (first | apply R_alloc | apply R_drewN | apply R_drew)); exact R_mono (Kd.R_far (p := ⟨gb214, 0, none⟩) (Kd.R_types HO_216000.out BK214.out (by decide)) (fun _ hk => hk.2) (.slice Ao24 x216000_1.length co24)) (fun _ hk => trivial), by repeat (first | (with_reducible first | exact HB.out | apply below_alloc | apply pw_below_drewN | apply below_drew1 | refine below_set ?_ GE213.out | refine below_set ?_ GE214.out | refine below_set ?_ GE215.out) | exact HB.out)⟩

-- NOT PRINTED: function 18 (reflectlite_ValueOf)

-- NOT PRINTED: function 19 (reflectlite_Value_Type)

-- NOT PRINTED: function 20 (reflectlite_Value_IsNil)

-- NOT PRINTED: function 22 (reflectlite_TypeOf)

-- NOT PRINTED: function 31 (reflectlite_Value_Elem)

-- NOT PRINTED: function 32 (reflectlite_Value_Set)

-- NOT PRINTED: function 21 (errors_as)

-- NOT PRINTED: function 11 (errors_As)

-- NOT PRINTED: function 23 (errors_is)

-- NOT PRINTED: function 12 (errors_Is)

-- NOT PRINTED: function 8 (fettlelaw00_Is)

-- NOT PRINTED: function 3 (fettlelaw02_CheckMore)

end Go.Proofs.YtocjpkjijjdnbaaDoor.PCheckMore
