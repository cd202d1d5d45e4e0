-- Laid by a program of this session (wip/pp/patch.py over the kit's print).
-- mended yes
-- mended: lengths
import Derived.Test.YtpionncanaamgaaPDomOrderx0
import Derived.Test.YtpionncanaamgaaPDomOrderx9
namespace Go.Proofs.Ytpionncanaamgaa.PDomOrder
open Go.RowKit Go.Proofs.YtpionncanaamgaaW.PrintWords Go.Proofs.YtpionncanaamgaaW.PrintLast Go.Proofs.YtpionncanaamgaaW.PrintMore Go.Proofs.YtpionncanaamgaaW.PrintWords.Kd
attribute [local go_sem] max2_int min2_int max_two min_two max_three min_three max_four min_four   -- for this text's walks alone
set_option linter.unusedVariables false
set_option linter.unusedSimpArgs false

/-! ### fettleref05_From: function 18 -/
mutual
def fettleref05_From.j0 : Nat → Int → Int → List Bool → Bool → Int → Int → List Int → List (S52) → Option (List Bool)
  | 0, _, _, _, _, _, _, _, _ => none
  | k + 1, x1, x2, x7, x28, x301000, x301001, x301002, x301003 => if x28 = true then (some x7) else (if 0 ≤ x1 then (if x1 < (x7.length : Int) then (fettleref05_From.l0 k x2 (x7.set (x1 : Int).toNat true) 0 x301000 x301001 x301002 x301003) else (none)) else (none))
def fettleref05_From.l0 : Nat → Int → List Bool → Int → Int → Int → List Int → List (S52) → Option (List Bool)
  | 0, _, _, _, _, _, _, _ => none
  | k + 1, x2, x7, x8, x301000, x301001, x301002, x301003 => if x8 < (x7.length : Int) then (fettleref05_From.l1 k x2 x7 x8 0 x301000 x301001 x301002 x301003) else (some x7)
def fettleref05_From.l1 : Nat → Int → List Bool → Int → Int → Int → Int → List Int → List (S52) → Option (List Bool)
  | 0, _, _, _, _, _, _, _, _ => none
  | k + 1, x2, x7, x8, x9, x301000, x301001, x301002, x301003 => if x9 < (x7.length : Int) then (if 0 ≤ x9 then (if rdOf false x7 x9 = true then ((fettleref05_Next.f k x301000 x301001 x301002 x301003 x9).bind fun t306 => (fettleref05_From.l2 k x2 x7 x8 x9 t306 0 x301000 x301001 x301002 x301003)) else (fettleref05_From.l1 k x2 x7 x8 (wrap64 (x9 + 1)) x301000 x301001 x301002 x301003)) else (none)) else (fettleref05_From.l0 k x2 x7 (wrap64 (x8 + 1)) x301000 x301001 x301002 x301003)
def fettleref05_From.l2 : Nat → Int → List Bool → Int → Int → List Int → Int → Int → Int → List Int → List (S52) → Option (List Bool)
  | 0, _, _, _, _, _, _, _, _, _, _ => none
  | k + 1, x2, x7, x8, x9, x10, x11, x301000, x301001, x301002, x301003 => if x11 < (x10.length : Int) then (if 0 ≤ x11 then (if (rd x10 x11) = x2 then (fettleref05_From.l2 k x2 x7 x8 x9 x10 (wrap64 (x11 + 1)) x301000 x301001 x301002 x301003) else (if 0 ≤ (rd x10 x11) then (if (rd x10 x11) < (x7.length : Int) then (fettleref05_From.l2 k x2 (x7.set ((rd x10 x11) : Int).toNat true) x8 x9 x10 (wrap64 (x11 + 1)) x301000 x301001 x301002 x301003) else (none)) else (none))) else (none)) else (fettleref05_From.l1 k x2 x7 x8 (wrap64 (x9 + 1)) x301000 x301001 x301002 x301003)
end
def fettleref05_From.f (k : Nat) (a0_0 : Int) (a0_1 : Int) (l0_2 : List Int) (l0_3 : List (S52)) (a1 : Int) (a2 : Int) : Option (List Bool) := if 0 ≤ (l0_3.length : Int) then (if ((l0_3.length : Int) : Int).toNat ≤ 281474976710656 then ((some (List.replicate ((l0_3.length : Int) : Int).toNat false : List Bool)).bind fun y301 => (if a1 < 0 then (fettleref05_From.j0 k a1 a2 y301 true a0_0 a0_1 l0_2 l0_3) else (if a1 ≥ (y301.length : Int) then (fettleref05_From.j0 k a1 a2 y301 true a0_0 a0_1 l0_2 l0_3) else (fettleref05_From.j0 k a1 a2 y301 (a1 == a2) a0_0 a0_1 l0_2 l0_3)))) else (none)) else (none)
theorem fettleref05_From.mono_l : ∀ k, (∀ y0 y1 y2 y3 y4 y5 y6 y7, LeO (fettleref05_From.j0 k y0 y1 y2 y3 y4 y5 y6 y7) (fettleref05_From.j0 (k + 1) y0 y1 y2 y3 y4 y5 y6 y7)) ∧ (∀ y0 y1 y2 y3 y4 y5 y6, LeO (fettleref05_From.l0 k y0 y1 y2 y3 y4 y5 y6) (fettleref05_From.l0 (k + 1) y0 y1 y2 y3 y4 y5 y6)) ∧ (∀ y0 y1 y2 y3 y4 y5 y6 y7, LeO (fettleref05_From.l1 k y0 y1 y2 y3 y4 y5 y6 y7) (fettleref05_From.l1 (k + 1) y0 y1 y2 y3 y4 y5 y6 y7)) ∧ (∀ y0 y1 y2 y3 y4 y5 y6 y7 y8 y9, LeO (fettleref05_From.l2 k y0 y1 y2 y3 y4 y5 y6 y7 y8 y9) (fettleref05_From.l2 (k + 1) y0 y1 y2 y3 y4 y5 y6 y7 y8 y9))
  | 0 => ⟨fun _ _ _ _ _ _ _ _ r h => by simp [fettleref05_From.j0] at h, fun _ _ _ _ _ _ _ r h => by simp [fettleref05_From.l0] at h, fun _ _ _ _ _ _ _ _ r h => by simp [fettleref05_From.l1] at h, fun _ _ _ _ _ _ _ _ _ _ r h => by simp [fettleref05_From.l2] at h⟩
  | k + 1 => by
    obtain ⟨ih0, ih1, ih2, ih3⟩ := fettleref05_From.mono_l k
    refine ⟨?_, ?_, ?_, ?_⟩
    · intro y0 y1 y2 y3 y4 y5 y6 y7
      unfold fettleref05_From.j0
      repeat' first
      | (with_reducible exact ih0 _ _ _ _ _ _ _ _)
      | (with_reducible exact ih1 _ _ _ _ _ _ _)
      | (with_reducible exact ih2 _ _ _ _ _ _ _ _)
      | (with_reducible exact ih3 _ _ _ _ _ _ _ _ _ _)
      | (with_reducible exact fettleref05_Next.mono _ _ _ _ _ _)
      | (with_reducible exact LeO.refl _)
      | (with_reducible exact LeO.none _)
      | (with_reducible refine LeO.ite ?_ ?_)
      | (with_reducible refine LeO.bind ?_ (fun _ => ?_))
      | exact ih0 _ _ _ _ _ _ _ _
      | exact ih1 _ _ _ _ _ _ _
      | exact ih2 _ _ _ _ _ _ _ _
      | exact ih3 _ _ _ _ _ _ _ _ _ _
      | exact fettleref05_Next.mono _ _ _ _ _ _
      | exact LeO.none _
      | refine LeO.ite ?_ ?_
      | refine LeO.bind ?_ (fun _ => ?_)
    · intro y0 y1 y2 y3 y4 y5 y6
      unfold fettleref05_From.l0
      repeat' first
      | (with_reducible exact ih0 _ _ _ _ _ _ _ _)
      | (with_reducible exact ih1 _ _ _ _ _ _ _)
      | (with_reducible exact ih2 _ _ _ _ _ _ _ _)
      | (with_reducible exact ih3 _ _ _ _ _ _ _ _ _ _)
      | (with_reducible exact fettleref05_Next.mono _ _ _ _ _ _)
      | (with_reducible exact LeO.refl _)
      | (with_reducible exact LeO.none _)
      | (with_reducible refine LeO.ite ?_ ?_)
      | (with_reducible refine LeO.bind ?_ (fun _ => ?_))
      | exact ih0 _ _ _ _ _ _ _ _
      | exact ih1 _ _ _ _ _ _ _
      | exact ih2 _ _ _ _ _ _ _ _
      | exact ih3 _ _ _ _ _ _ _ _ _ _
      | exact fettleref05_Next.mono _ _ _ _ _ _
      | exact LeO.none _
      | refine LeO.ite ?_ ?_
      | refine LeO.bind ?_ (fun _ => ?_)
    · intro y0 y1 y2 y3 y4 y5 y6 y7
      unfold fettleref05_From.l1
      repeat' first
      | (with_reducible exact ih0 _ _ _ _ _ _ _ _)
      | (with_reducible exact ih1 _ _ _ _ _ _ _)
      | (with_reducible exact ih2 _ _ _ _ _ _ _ _)
      | (with_reducible exact ih3 _ _ _ _ _ _ _ _ _ _)
      | (with_reducible exact fettleref05_Next.mono _ _ _ _ _ _)
      | (with_reducible exact LeO.refl _)
      | (with_reducible exact LeO.none _)
      | (with_reducible refine LeO.ite ?_ ?_)
      | (with_reducible refine LeO.bind ?_ (fun _ => ?_))
      | exact ih0 _ _ _ _ _ _ _ _
      | exact ih1 _ _ _ _ _ _ _
      | exact ih2 _ _ _ _ _ _ _ _
      | exact ih3 _ _ _ _ _ _ _ _ _ _
      | exact fettleref05_Next.mono _ _ _ _ _ _
      | exact LeO.none _
      | refine LeO.ite ?_ ?_
      | refine LeO.bind ?_ (fun _ => ?_)
    · intro y0 y1 y2 y3 y4 y5 y6 y7 y8 y9
      unfold fettleref05_From.l2
      repeat' first
      | (with_reducible exact ih0 _ _ _ _ _ _ _ _)
      | (with_reducible exact ih1 _ _ _ _ _ _ _)
      | (with_reducible exact ih2 _ _ _ _ _ _ _ _)
      | (with_reducible exact ih3 _ _ _ _ _ _ _ _ _ _)
      | (with_reducible exact fettleref05_Next.mono _ _ _ _ _ _)
      | (with_reducible exact LeO.refl _)
      | (with_reducible exact LeO.none _)
      | (with_reducible refine LeO.ite ?_ ?_)
      | (with_reducible refine LeO.bind ?_ (fun _ => ?_))
      | exact ih0 _ _ _ _ _ _ _ _
      | exact ih1 _ _ _ _ _ _ _
      | exact ih2 _ _ _ _ _ _ _ _
      | exact ih3 _ _ _ _ _ _ _ _ _ _
      | exact fettleref05_Next.mono _ _ _ _ _ _
      | exact LeO.none _
      | refine LeO.ite ?_ ?_
      | refine LeO.bind ?_ (fun _ => ?_)
theorem fettleref05_From.mono : ∀ a0 a1 a2 a3 a4 a5 k, LeO (fettleref05_From.f k a0 a1 a2 a3 a4 a5) (fettleref05_From.f (k + 1) a0 a1 a2 a3 a4 a5) := by
  intro a0 a1 a2 a3 a4 a5 k
  obtain ⟨ih0, ih1, ih2, ih3⟩ := fettleref05_From.mono_l k
  unfold fettleref05_From.f
  repeat' first
      | (with_reducible exact ih0 _ _ _ _ _ _ _ _)
      | (with_reducible exact ih1 _ _ _ _ _ _ _)
      | (with_reducible exact ih2 _ _ _ _ _ _ _ _)
      | (with_reducible exact ih3 _ _ _ _ _ _ _ _ _ _)
      | (with_reducible exact fettleref05_Next.mono _ _ _ _ _ _)
      | (with_reducible exact LeO.refl _)
      | (with_reducible exact LeO.none _)
      | (with_reducible refine LeO.ite ?_ ?_)
      | (with_reducible refine LeO.bind ?_ (fun _ => ?_))
      | exact ih0 _ _ _ _ _ _ _ _
      | exact ih1 _ _ _ _ _ _ _
      | exact ih2 _ _ _ _ _ _ _ _
      | exact ih3 _ _ _ _ _ _ _ _ _ _
      | exact fettleref05_Next.mono _ _ _ _ _ _
      | exact LeO.none _
      | refine LeO.ite ?_ ?_
      | refine LeO.bind ?_ (fun _ => ?_)
set_option maxHeartbeats 8000000 in
set_option maxRecDepth 100000 in
theorem fettleref05_From.calls (k : Nat) (a0_0 : Int) (a0_1 : Int) (A0_2 : Option Addr) (c0_2 : Nat) (l0_2 : List Int) (A0_3 : Option Addr) (c0_3 : Nat) (l0_3 : List (S52)) (a1 : Int) (a2 : Int) (r : List Bool) (w : World) (hr0_2 : Kd.C (Kd.int .i64) w A0_2 l0_2.length l0_2) (hc0_2 : l0_2.length ≤ c0_2) (hr0_3 : Kd.C k52 w A0_3 l0_3.length l0_3) (hc0_3 : l0_3.length ≤ c0_3) (h : fettleref05_From.f k a0_0 a0_1 l0_2 l0_3 a1 a2 = some r) :
    Calls Try.prog 18 #[.agg #[.int .i64 a0_0, .int .i64 a0_1, .slice A0_2 l0_2.length c0_2, .slice A0_3 l0_3.length c0_3], .int .i64 a1, .int .i64 a2] w fun e w' => ∃ v0_ : Value, e = .returned (v0_) ∧ Kd.R Kd.bool 4 w' w.heap.size (fun _ => True) v0_ r ∧ Below w.heap.size w w' := by
  have hu25 := Try.underlying25
  have HR0_2 := Aside0.mk hr0_2
  have HC0_2 := Aside0.mk hc0_2
  clear hr0_2 hc0_2
  have HR0_3 := Aside0.mk hr0_3
  have HC0_3 := Aside0.mk hc0_3
  clear hr0_3 hc0_3
  have HB := Aside0.mk (Below.refl w.heap.size w)
  have H : (if 0 ≤ (l0_3.length : Int) then (if ((l0_3.length : Int) : Int).toNat ≤ 281474976710656 then ((some (List.replicate ((l0_3.length : Int) : Int).toNat false : List Bool)).bind fun y301 => (if a1 < 0 then (fettleref05_From.j0 k a1 a2 y301 true a0_0 a0_1 l0_2 l0_3) else (if a1 ≥ (y301.length : Int) then (fettleref05_From.j0 k a1 a2 y301 true a0_0 a0_1 l0_2 l0_3) else (fettleref05_From.j0 k a1 a2 y301 (a1 == a2) a0_0 a0_1 l0_2 l0_3)))) else (none)) else (none)) = some r := h
  clear h
  by_cases c4 : 0 ≤ (l0_3.length : Int)
  rotate_left
  · rw [if_neg c4] at H
    exact absurd H (by simp)


  rw [if_pos c4] at H
  have c4b0 := eq_true c4
  have c4b1 : decide (0 ≤ (l0_3.length : Int)) = true := decide_eq_true c4
  clear c4
  by_cases c5 : ((l0_3.length : Int) : Int).toNat ≤ 281474976710656
  rotate_left
  · rw [if_neg c5] at H
    exact absurd H (by simp)
  rw [if_pos c5] at H
  have c5b0 := eq_true c5
  have c5b1 : decide (((l0_3.length : Int) : Int).toNat ≤ 281474976710656) = true := decide_eq_true c5
  clear c5
  obtain ⟨y301, hy301⟩ : ∃ y_ : List Bool, y_ = (List.replicate ((l0_3.length : Int) : Int).toNat false) := ⟨_, rfl⟩
  replace H : (if a1 < 0 then (fettleref05_From.j0 k a1 a2 y301 true a0_0 a0_1 l0_2 l0_3) else (if a1 ≥ (y301.length : Int) then (fettleref05_From.j0 k a1 a2 y301 true a0_0 a0_1 l0_2 l0_3) else (fettleref05_From.j0 k a1 a2 y301 (a1 == a2) a0_0 a0_1 l0_2 l0_3))) = some r := by first | (rw [hy301]; with_reducible exact H) | (have H2_ := (Option.bind_some _ _).symm.trans H; rw [hy301]; with_reducible exact H2_) | exact H
  have Ny301 := Aside0.mk hy301
  clear hy301
  have HC6 := Aside0.mk H
  clear H
  go_enter Try.func18, Try.ntmps18
  go_upto_region 2 with (first | ((with_reducible refine gate_dst (N := 3) rfl ?_); (try (refine gate_guard (by rfl) ?_; dsimp only)); refine box_event ?hg (N := 3) ?hd (cs := #[.int .i64 a0_0, .int .i64 a0_1, .slice A0_2 l0_2.length c0_2, .slice A0_3 l0_3.length c0_3]) (t := 25) ?hr ?_; (case hd => rfl); (case hg => rfl); (case hr => first | (go_simp; done) | (go_simp; rfl)); intro gb300 hg w7 hbox hb; have n0_ := Aside0.mk (below_step (by repeat with_reducible first | exact HB.out | apply below_alloc | apply pw_below_drewN | apply below_drew1) hb); have n1_ := Aside0.mk (hbox); have n2_ := Aside0.mk ((by rw [hg]; exact (below_size (by repeat with_reducible first | exact HB.out | apply below_alloc | apply pw_below_drewN | apply below_drew1)) : w.heap.size ≤ gb300)); have n3_ := Aside0.mk ((by rw [hg]; exact (below_size (by repeat with_reducible first | exact HB.out | apply below_alloc | apply pw_below_drewN | apply below_drew1)) : w.heap.size ≤ gb300)); clear HB; have HB := n0_; have BK300 := n1_; have GW300 := n2_; have GE300 := n3_; clear n0_ n1_ n2_ n3_; clear hb hbox hg; have hcz8_0 : w7.cell? ⟨gb300, 0, none⟩ = some (.int .i64 a0_0) := (blk_cell BK300.out 0).trans rfl; have hcz8_1 : w7.cell? ⟨gb300, 1, none⟩ = some (.int .i64 a0_1) := (blk_cell BK300.out 1).trans rfl; have hcz8_2 : w7.cell? ⟨gb300, 2, none⟩ = some (.slice A0_2 l0_2.length c0_2) := (blk_cell BK300.out 2).trans rfl; have hcz8_3 : w7.cell? ⟨gb300, 3, none⟩ = some (.slice A0_3 l0_3.length c0_3) := (blk_cell BK300.out 3).trans rfl; have hfz8_0 := blk_frozen BK300.out 0; have hfz8_1 := blk_frozen BK300.out 1; have hfz8_2 := blk_frozen BK300.out 2; have hfz8_3 := blk_frozen BK300.out 3) | ((with_reducible refine gate_dst (N := 15) rfl ?_); (try (refine gate_guard (by rfl) ?_; dsimp only)); refine Kd.R_make Kd.bool _ 4 rfl (N := 15) rfl 34 _ _ rfl (l0_3.length : Int) rfl rfl Try.underlying34 (.bool false) 1 info4 rfl (by decide) (by omega) false (ok := fun _ => True) (okp := fun _ => True) rfl (fun _ hk => hk) trivial (of_decide_eq_true (by with_reducible assumption)) (Nat.le_trans (Nat.mul_le_mul_right _ (of_decide_eq_true (by with_reducible assumption) : (l0_3.length : Int).toNat ≤ 281474976710656)) (by omega)) (Below.refl _ _) (Nat.le_refl _) ?_; intro v302 w9 ho10 hb hg_ hnew_; clear hg_ hnew_; rw [← Ny301.out] at ho10; have n0_ := Aside0.mk (Kd.R_lower ho10 (below_size (by repeat with_reducible first | exact HB.out | apply below_alloc | apply pw_below_drewN | apply below_drew1 | refine below_set ?_ GE300.out))); have n1_ := Aside0.mk (blk_below (g := gb300) (o := .cells #[.int .i64 a0_0, .int .i64 a0_1, .slice A0_2 l0_2.length c0_2, .slice A0_3 l0_3.length c0_3] 25 (0, 0)) (by (with_reducible repeat (first | refine blk_drewN ?_ _ | refine blk_drew ?_ | refine blk_alloc ?_ _)); exact BK300.out) hb); have n2_ := Aside0.mk (below_step (by repeat with_reducible first | exact HB.out | apply below_alloc | apply pw_below_drewN | apply below_drew1 | refine below_set ?_ GE300.out) hb); clear BK300; clear HB; have HO303 := n0_; have BK300 := n1_; have HB := n2_; clear n0_ n1_ n2_; clear hb ho10))
  (try simp only [Act.put, List.setIfInBounds_toArray, List.set_cons_zero, List.set_cons_succ])
  go_cut [28] (fun v28 wc => ∃ (kq : Nat) (x28_5 : Bool), v28 = .bool x28_5 ∧ Aside0 (fettleref05_From.j0 kq a1 a2 y301 x28_5 a0_0 a0_1 l0_2 l0_3 = some r) ∧ Aside0 (kq ≤ k) ∧ Aside0 (Kd.R Kd.bool 4 wc w.heap.size (fun _ => True) v302 y301) ∧ Aside0 (wc.heap[gb300]? = some (.cells #[.int .i64 a0_0, .int .i64 a0_1, (.slice A0_2 l0_2.length c0_2), (.slice A0_3 l0_3.length c0_3)] 25 (0, 0))) ∧ Aside0 (Below w.heap.size w wc))
  case first =>
    have H := HC6.out
    clear HC6
    by_cases c11 : a1 < 0
    · rw [if_pos c11] at H
      have c11b0 : decide (a1 < 0) = true := decide_eq_true c11
      clear c11
      (first | rw [c11b0] | (simp only [i64_w, i32_w]; rw [c11b0]) | skip)
      have H' := Aside0.mk H
      clear H
      go_wp2
      go_meet
      case rel => exact ⟨_, (true), (by first | rfl | (simp; done) | (simp [*]; done)), H', ⟨by first | omega | exact Nat.le_refl _⟩, ⟨by (with_reducible repeat (first | apply R_alloc | apply R_drewN | apply R_drew)); exact HO303.out⟩, ⟨by (with_reducible repeat (first | refine blk_drewN ?_ _ | refine blk_drew ?_ | refine blk_alloc ?_ _)); exact BK300.out⟩, ⟨by repeat (first | (with_reducible first | exact HB.out | apply below_alloc | apply pw_below_drewN | apply below_drew1 | refine below_set ?_ GE300.out) | exact HB.out)⟩⟩
    rw [if_neg c11] at H
    have c11b0 : decide (a1 < 0) = false := decide_eq_false c11
    clear c11
    (first | rw [c11b0] | (simp only [i64_w, i32_w]; rw [c11b0]) | skip)
    by_cases c12 : a1 ≥ (y301.length : Int)
    · rw [if_pos c12] at H
      have c12b0 : decide ((y301.length : Int) ≤ a1) = true := decide_eq_true c12
      clear c12
      have H' := Aside0.mk H
      clear H
      obtain ⟨Ao13, co13, eo13⟩ := Kd.R_slice HO303.out
      subst eo13
      go_wp2
      go_meet
      case rel => exact ⟨_, (true), (by first | rfl | (simp; done) | (simp [*]; done)), H', ⟨by first | omega | exact Nat.le_refl _⟩, ⟨by (with_reducible repeat (first | apply R_alloc | apply R_drewN | apply R_drew)); exact HO303.out⟩, ⟨by (with_reducible repeat (first | refine blk_drewN ?_ _ | refine blk_drew ?_ | refine blk_alloc ?_ _)); exact BK300.out⟩, ⟨by repeat (first | (with_reducible first | exact HB.out | apply below_alloc | apply pw_below_drewN | apply below_drew1 | refine below_set ?_ GE300.out) | exact HB.out)⟩⟩
    rw [if_neg c12] at H
    have c12b0 : decide ((y301.length : Int) ≤ a1) = false := decide_eq_false c12
    clear c12
    have H' := Aside0.mk H
    clear H
    obtain ⟨Ao14, co14, eo14⟩ := Kd.R_slice HO303.out
    subst eo14
    go_wp2
    go_meet
    case rel => exact ⟨_, ((a1 == a2)), (by first | rfl | (simp; done) | (simp [*]; done)), H', ⟨by first | omega | exact Nat.le_refl _⟩, ⟨by (with_reducible repeat (first | apply R_alloc | apply R_drewN | apply R_drew)); exact HO303.out⟩, ⟨by (with_reducible repeat (first | refine blk_drewN ?_ _ | refine blk_drew ?_ | refine blk_alloc ?_ _)); exact BK300.out⟩, ⟨by repeat (first | (with_reducible first | exact HB.out | apply below_alloc | apply pw_below_drewN | apply below_drew1 | refine below_set ?_ GE300.out) | exact HB.out)⟩⟩
  clear HC6
  try clear c1
  try clear p2
  try clear c4
  try clear c4b0
  try clear c4b1
  try clear c5
  try clear c5b0
  try clear c5b1
  try clear c11
  try clear c11b0
  try clear c12
  try clear c12b0
  try clear hcz8_0
  try clear hcz8_1
  try clear hcz8_2
  try clear hcz8_3
  try clear hfz8_0
  try clear hfz8_1
  try clear hfz8_2
  try clear hfz8_3
  obtain ⟨kq, x28_5, rfl, HA, HJ5, HO_7, BK300, HB⟩ := hcut
  rcases kq with _ | kj5
  · exact absurd HA.out (by simp [fettleref05_From.j0])
  have H := HA.out
  clear HA
  simp only [fettleref05_From.j0] at H
  by_cases c15 : x28_5 = true
  · subst c15
    have H1 : (some y301) = some r := by rw [if_pos rfl] at H; exact H
    clear H
    have H := H1
    clear H1
    obtain rfl := Option.some.inj H
    go_wp2
    go_ret
    exact ⟨_, by first | rfl | (simp [errW_none, errW_some] <;> rfl) | (simp [*, errW_none, errW_some] <;> rfl), by (with_reducible repeat (first | apply R_alloc | apply R_drewN | apply R_drew)); exact HO_7.out, by repeat (first | (with_reducible first | exact HB.out | apply below_alloc | apply pw_below_drewN | apply below_drew1 | refine below_set ?_ GE300.out) | exact HB.out)⟩
  replace c15 := Bool.eq_false_iff.mpr c15
  subst c15
  have H1 : (if 0 ≤ a1 then (if a1 < (y301.length : Int) then (fettleref05_From.l0 kj5 a2 (y301.set (a1 : Int).toNat true) 0 a0_0 a0_1 l0_2 l0_3) else (none)) else (none)) = some r := by rw [if_neg (show ¬ (false = true) by decide)] at H; exact H
  clear H
  have H := H1
  clear H1
  by_cases c16 : 0 ≤ a1
  rotate_left
  · rw [if_neg c16] at H
    exact absurd H (by simp)
  rw [if_pos c16] at H
  have c16b0 : decide (0 ≤ a1) = true := decide_eq_true c16
  clear c16
  by_cases c17 : a1 < (y301.length : Int)
  rotate_left
  · rw [if_neg c17] at H
    exact absurd H (by simp)
  rw [if_pos c17] at H
  have c17b0 : decide (a1 < (y301.length : Int)) = true := decide_eq_true c17
  clear c17
  obtain ⟨y304, hy304⟩ : ∃ y_ : List Bool, y_ = (y301.set (a1 : Int).toNat true) := ⟨_, rfl⟩
  replace H : (fettleref05_From.l0 kj5 a2 y304 0 a0_0 a0_1 l0_2 l0_3) = some r := by first | (rw [hy304]; with_reducible exact H) | (have H2_ := (Option.bind_some _ _).symm.trans H; rw [hy304]; with_reducible exact H2_) | exact H
  have Ny304 := Aside0.mk hy304
  clear hy304
  have H' := Aside0.mk H
  clear H
  have p18 : 0 ≤ (a1 : Int) := of_decide_eq_true (by with_reducible assumption)
  have q18 : (a1 : Int) < ((y301.length : Int) : Int) := of_decide_eq_true (by with_reducible assumption)
  obtain ⟨go18, co18, eo18, gb18, gl18, cl18, HG18⟩ := Kd.R_form HO_7.out (by omega)
  (first | cases eo18 | (injection eo18 with ea_ en_ ec_; (first | subst ea_ | (injection ea_ with ea_; subst ea_)); subst ec_; clear en_))
  have GB18 := Aside0.mk gb18
  have GG18 := Aside0.mk HG18
  clear gb18 gl18 HG18
  obtain ⟨hx18_0, hf18_0⟩ := Kd.R_celln false HO_7.out (a1 : Int) p18 q18
  replace p18 := eq_true p18
  replace q18 := eq_true q18
  have HP19 := Kd.R_putg HO_7.out (a1 : Int) true
  go_wp2_with (first | ((with_reducible refine gate_store (t := 4) (p := 32) rfl ?_); refine store_event (t := 4) (p := 32) (v := ?vo_w20) (w1 := (wc.setCell ⟨go18, (a1 : Int).toNat, none⟩ (.bool true))) ?hg ?ho ?hn ?hr ?_; (case ho => rfl); (case hg => rfl); (case hn => rfl); (case hr => first | (go_simp; done) | (go_simp; rfl)); intro w20 hw; have hg : wc.grownBy w20 (some go18) := (by rw [hw]; exact HP19.2); have hp_ : Kd.R Kd.bool 4 w20 w.heap.size (fun _ => True) (.slice (some ⟨go18, 0, none⟩) y301.length co18) y304 := (by rw [hw, Ny304.out]; exact HP19.1); clear HP19; have n0_ := Aside0.mk (hp_); have n1_ := Aside0.mk (blk_grown (g := gb300) (o := .cells #[.int .i64 a0_0, .int .i64 a0_1, .slice A0_2 l0_2.length c0_2, .slice A0_3 l0_3.length c0_3] 25 (0, 0)) (by (with_reducible repeat (first | refine blk_drewN ?_ _ | refine blk_drew ?_ | refine blk_alloc ?_ _)); exact BK300.out) hg (Kd.R_ne HO_7.out BK300.out (by decide))); have n2_ := Aside0.mk ((by rw [hw]; exact below_set (HB.out) GB18.out : Below w.heap.size w w20)); clear HO_7; clear BK300; clear HB; have HO_7 := n0_; have BK300 := n1_; have HB := n2_; clear n0_ n1_ n2_; clear hg hw hp_))
  go_loopg [8] kj5 (fun kq v8 w' => ∃ (x7_2 : List Bool) (x8_2 : Int), v8 = .int .i64 x8_2 ∧ Aside0 (fettleref05_From.l0 kq a2 x7_2 x8_2 a0_0 a0_1 l0_2 l0_3 = some r) ∧ Aside0 (kq ≤ kj5) ∧ Aside0 (Kd.R Kd.bool 4 w' w.heap.size (fun _ => True) (.slice (some ⟨go18, 0, none⟩) y301.length co18) x7_2) ∧ Aside0 (w'.heap[gb300]? = some (.cells #[.int .i64 a0_0, .int .i64 a0_1, (.slice A0_2 l0_2.length c0_2), (.slice A0_3 l0_3.length c0_3)] 25 (0, 0))) ∧ Aside0 (Below w.heap.size w w'))
  case atStart => exact ⟨(y304), (0), (by first | rfl | (simp; done) | (simp [*]; done)), H', ⟨Nat.le_refl _⟩, ⟨by (with_reducible repeat (first | apply R_alloc | apply R_drewN | apply R_drew)); exact HO_7.out⟩, ⟨by (with_reducible repeat (first | refine blk_drewN ?_ _ | refine blk_drew ?_ | refine blk_alloc ?_ _)); exact BK300.out⟩, ⟨by repeat (first | (with_reducible first | exact HB.out | apply below_alloc | apply pw_below_drewN | apply below_drew1 | refine below_set ?_ GE300.out) | exact HB.out)⟩⟩
  clear H'
  try clear c1
  try clear p1
  try clear q1
  try clear hx1
  try clear p2
  try clear c4
  try clear c4b0
  try clear c4b1
  try clear c5
  try clear c5b0
  try clear c5b1
  try clear c11
  try clear c11b0
  try clear c12
  try clear c12b0
  try clear c15
  try clear c16
  try clear c16b0
  try clear c17
  try clear c17b0
  try clear c18
  try clear p18
  try clear q18
  try clear hx18
  try clear hf18
  try clear hcz8_0
  try clear hcz8_1
  try clear hcz8_2
  try clear hcz8_3
  try clear hfz8_0
  try clear hfz8_1
  try clear hfz8_2
  try clear hfz8_3
  try clear hx18_0
  try clear p18
  try clear p2
  try clear q18
  obtain ⟨x7_2, x8_2, rfl, HA, HK2, HO_7, BK300, HB⟩ := hrel
  have hl7_2 := (R_reads' HO_7.out).1
  rw [hl7_2] at HO_7
  (try simp only [hl7_2])
  (try simp only [hl7_2] at BK300)
  rcases gk with _ | k2
  · exact absurd HA.out (by simp [fettleref05_From.l0])
  have H := HA.out
  clear HA
  simp only [fettleref05_From.l0] at H
  by_cases c21 : x8_2 < (x7_2.length : Int)
  rotate_left
  · rw [if_neg c21] at H
    have c21b0 : decide (x8_2 < (x7_2.length : Int)) = false := decide_eq_false c21
    (try simp only [hl7_2] at c21b0)
    clear c21
    obtain rfl := Option.some.inj H
    go_wp2
    go_ret
    exact ⟨_, by first | rfl | (simp [errW_none, errW_some] <;> rfl) | (simp [*, errW_none, errW_some] <;> rfl), by (with_reducible repeat (first | apply R_alloc | apply R_drewN | apply R_drew)); exact HO_7.out, by repeat (first | (with_reducible first | exact HB.out | apply below_alloc | apply pw_below_drewN | apply below_drew1 | refine below_set ?_ GE300.out) | exact HB.out)⟩
  rw [if_pos c21] at H
  have c21b0 : decide (x8_2 < (x7_2.length : Int)) = true := decide_eq_true c21
  have c21b0l := c21b0
  (try simp only [hl7_2] at c21b0l)
  clear c21
  have H' := Aside0.mk H
  clear H
  go_wp2
  go_loopg [9] k2 (fun kq v9 w' => ∃ (x7_3 : List Bool) (x9_3 : Int), v9 = .int .i64 x9_3 ∧ Aside0 (fettleref05_From.l1 kq a2 x7_3 x8_2 x9_3 a0_0 a0_1 l0_2 l0_3 = some r) ∧ Aside0 (kq ≤ k2) ∧ Aside0 (Kd.R Kd.bool 4 w' w.heap.size (fun _ => True) (.slice (some ⟨go18, 0, none⟩) x7_2.length co18) x7_3) ∧ Aside0 (w'.heap[gb300]? = some (.cells #[.int .i64 a0_0, .int .i64 a0_1, (.slice A0_2 l0_2.length c0_2), (.slice A0_3 l0_3.length c0_3)] 25 (0, 0))) ∧ Aside0 (Below w.heap.size w w'))
  case atStart => exact ⟨(x7_2), (0), (by first | rfl | (simp; done) | (simp [*]; done)), H', ⟨Nat.le_refl _⟩, ⟨by (try simp only [hl7_2]); (with_reducible repeat (first | apply R_alloc | apply R_drewN | apply R_drew)); exact HO_7.out⟩, ⟨by (try simp only [hl7_2]); (with_reducible repeat (first | refine blk_drewN ?_ _ | refine blk_drew ?_ | refine blk_alloc ?_ _)); exact BK300.out⟩, ⟨by repeat (first | (with_reducible first | exact HB.out | apply below_alloc | apply pw_below_drewN | apply below_drew1 | refine below_set ?_ GE300.out) | exact HB.out)⟩⟩
  clear H'
  try clear c1
  try clear p1
  try clear q1
  try clear hx1
  try clear c2
  try clear p2
  try clear c4
  try clear c4b0
  try clear c4b1
  try clear c5
  try clear c5b0
  try clear c5b1
  try clear c11
  try clear c11b0
  try clear c12
  try clear c12b0
  try clear c15
  try clear c16
  try clear c16b0
  try clear c17
  try clear c17b0
  try clear c18
  try clear p18
  try clear q18
  try clear hx18
  try clear hf18
  try clear c21
  try clear c21b0
  try clear hcz8_0
  try clear hcz8_1
  try clear hcz8_2
  try clear hcz8_3
  try clear hfz8_0
  try clear hfz8_1
  try clear hfz8_2
  try clear hfz8_3
  try clear hx18_0
  try clear p1
  try clear p18
  try clear p2
  try clear q1
  try clear q18
  obtain ⟨x7_3, x9_3, rfl, HA, HK3, HO_7, BK300, HB⟩ := hrel
  have hl7_3 := (R_reads' HO_7.out).1
  rw [hl7_3] at HO_7
  (try simp only [hl7_3])
  (try simp only [hl7_3] at BK300)
  rcases gk with _ | k3
  · exact absurd HA.out (by simp [fettleref05_From.l1])
  have H := HA.out
  clear HA
  simp only [fettleref05_From.l1] at H
  by_cases c22 : x9_3 < (x7_3.length : Int)
  · rw [if_pos c22] at H
    have c22b0 : decide (x9_3 < (x7_3.length : Int)) = true := decide_eq_true c22
    have c22b0l := c22b0
    (try simp only [hl7_2, hl7_3] at c22b0l)
    clear c22
    by_cases c23 : 0 ≤ x9_3
    rotate_left
    · rw [if_neg c23] at H
      exact absurd H (by simp)
    rw [if_pos c23] at H
    have c23b0 : decide (0 ≤ x9_3) = true := decide_eq_true c23
    clear c23
    obtain ⟨bq24, hbq24⟩ : ∃ b_ : Bool, b_ = (rdOf false x7_3 x9_3) := ⟨_, rfl⟩
    replace H : (if bq24 = true then ((fettleref05_Next.f k3 a0_0 a0_1 l0_2 l0_3 x9_3).bind fun t306 => (fettleref05_From.l2 k3 a2 x7_3 x8_2 x9_3 t306 0 a0_0 a0_1 l0_2 l0_3)) else (fettleref05_From.l1 k3 a2 x7_3 x8_2 (wrap64 (x9_3 + 1)) a0_0 a0_1 l0_2 l0_3)) = some r := by rw [← hbq24] at H; exact H
    have Nbq24 := Aside0.mk hbq24
    clear hbq24
    by_cases c25 : bq24 = true
    · subst c25
      have H1 : ((fettleref05_Next.f k3 a0_0 a0_1 l0_2 l0_3 x9_3).bind fun t306 => (fettleref05_From.l2 k3 a2 x7_3 x8_2 x9_3 t306 0 a0_0 a0_1 l0_2 l0_3)) = some r := by rw [if_pos rfl] at H; exact H
      clear H
      have H := H1
      clear H1
      replace H := Option.bind_eq_some_iff.mp H
      obtain ⟨t306, A260, H⟩ := H
      replace H : (fettleref05_From.l2 k3 a2 x7_3 x8_2 x9_3 t306 0 a0_0 a0_1 l0_2 l0_3) = some r := H
      have A26 := Aside0.mk A260
      clear A260
      have H' := Aside0.mk H
      clear H
      have p305 : 0 ≤ (x9_3 : Int) := of_decide_eq_true (by with_reducible assumption)
      have q305 : x9_3 < (x7_3.length : Int) := of_decide_eq_true (by with_reducible assumption)
      obtain ⟨ad305, e305, hx305_0⟩ := Kd.at_bool (R_reads' HO_7.out).2.2 x9_3 p305 q305
      (try rw [← Nbq24.out] at hx305_0)
      obtain rfl : (⟨go18, 0, none⟩ : Addr) = ad305 := (by injection e305)
      (first | simp only [add_plain] at hx305_0 | simp only [add_at] at hx305_0 | simp only [Addr.add, Nat.zero_add] at hx305_0 | skip)
      replace p305 := eq_true p305
      replace q305 := eq_true q305
      have hcz27_0 : wr.cell? ⟨gb300, 0, none⟩ = some (.int .i64 a0_0) := (blk_cell BK300.out 0).trans rfl
      have hcz27_1 : wr.cell? ⟨gb300, 1, none⟩ = some (.int .i64 a0_1) := (blk_cell BK300.out 1).trans rfl
      have hcz27_2 : wr.cell? ⟨gb300, 2, none⟩ = some (.slice A0_2 l0_2.length c0_2) := (blk_cell BK300.out 2).trans rfl
      have hcz27_3 : wr.cell? ⟨gb300, 3, none⟩ = some (.slice A0_3 l0_3.length c0_3) := (blk_cell BK300.out 3).trans rfl
      have hfz27_0 := blk_frozen BK300.out 0
      have hfz27_1 := blk_frozen BK300.out 1
      have hfz27_2 := blk_frozen BK300.out 2
      have hfz27_3 := blk_frozen BK300.out 3
      go_wp2_with (first | ((with_reducible refine gate_callee (f := 19) rfl ?_); refine goesL_ (some 52) rfl rfl Try.func19 (by kernel_rfl) rfl #[.agg #[.int .i64 a0_0, .int .i64 a0_1, .slice A0_2 l0_2.length c0_2, .slice A0_3 l0_3.length c0_3], .int .i64 x9_3] rfl (by (try simp only [List.map_toArray, List.map_cons, List.map_nil]); first | done | rfl) ?_; (with_reducible refine (fettleref05_Next.calls k3 a0_0 a0_1 _ _ l0_2 _ _ l0_3 x9_3 t306 _ ?side1 ?side2 ?side3 ?side4 A26.out).mono ?_); (case side1 => repeat (first | exact (C_below HR0_2.out HB.out) | (with_reducible refine C_alloc ?_ _) | (with_reducible refine C_drewN ?_ _) | (with_reducible refine C_drew ?_))); (case side2 => exact HC0_2.out); (case side3 => repeat (first | exact (C_below HR0_3.out HB.out) | (with_reducible refine C_alloc ?_ _) | (with_reducible refine C_drewN ?_ _) | (with_reducible refine C_drew ?_))); (case side4 => exact HC0_3.out); rintro e w28 ⟨v307, rfl, ho0, hb⟩; refine ⟨_, rfl, ?_⟩; have n0_ := Aside0.mk (Kd.R_below (by (with_reducible repeat (first | apply R_alloc | apply R_drewN | apply R_drew)); exact HO_7.out) hb); have n1_ := Aside0.mk (Kd.R_lower ho0 (below_size (by repeat with_reducible first | exact HB.out | apply below_alloc | apply pw_below_drewN | apply below_drew1 | refine below_set ?_ GE300.out))); have n2_ := Aside0.mk (blk_below (g := gb300) (o := .cells #[.int .i64 a0_0, .int .i64 a0_1, .slice A0_2 l0_2.length c0_2, .slice A0_3 l0_3.length c0_3] 25 (0, 0)) (by (with_reducible repeat (first | refine blk_drewN ?_ _ | refine blk_drew ?_ | refine blk_alloc ?_ _)); exact BK300.out) hb); have n3_ := Aside0.mk (below_step (by repeat with_reducible first | exact HB.out | apply below_alloc | apply pw_below_drewN | apply below_drew1 | refine below_set ?_ GE300.out) hb); clear HO_7; clear BK300; clear HB; have HO_7 := n0_; have HO308 := n1_; have BK300 := n2_; have HB := n3_; clear n0_ n1_ n2_ n3_; (try clear hb); (try clear hb2); (try clear hk); (try clear hi); (try clear ho0)))
      go_loopg [11] k3 (fun kq v11 w' => ∃ (x7_4 : List Bool) (x11_4 : Int), v11 = .int .i64 x11_4 ∧ Aside0 (fettleref05_From.l2 kq a2 x7_4 x8_2 x9_3 t306 x11_4 a0_0 a0_1 l0_2 l0_3 = some r) ∧ Aside0 (kq ≤ k3) ∧ Aside0 (Kd.R Kd.bool 4 w' w.heap.size (fun _ => True) (.slice (some ⟨go18, 0, none⟩) x7_3.length co18) x7_4) ∧ Aside0 (Kd.R (Kd.int .i64) 3 w' w.heap.size (fun _ => True) v307 t306) ∧ Aside0 (w'.heap[gb300]? = some (.cells #[.int .i64 a0_0, .int .i64 a0_1, (.slice A0_2 l0_2.length c0_2), (.slice A0_3 l0_3.length c0_3)] 25 (0, 0))) ∧ Aside0 (Below w.heap.size w w'))
      case atStart => exact ⟨(x7_3), (0), (by first | rfl | (simp; done) | (simp [*]; done)), H', ⟨Nat.le_refl _⟩, ⟨by (try simp only [hl7_2]); (try simp only [hl7_3]); (with_reducible repeat (first | apply R_alloc | apply R_drewN | apply R_drew)); exact HO_7.out⟩, ⟨by (try simp only [hl7_2]); (try simp only [hl7_3]); (with_reducible repeat (first | apply R_alloc | apply R_drewN | apply R_drew)); exact HO308.out⟩, ⟨by (try simp only [hl7_2]); (try simp only [hl7_3]); (with_reducible repeat (first | refine blk_drewN ?_ _ | refine blk_drew ?_ | refine blk_alloc ?_ _)); exact BK300.out⟩, ⟨by repeat (first | (with_reducible first | exact HB.out | apply below_alloc | apply pw_below_drewN | apply below_drew1 | refine below_set ?_ GE300.out) | exact HB.out)⟩⟩
      clear H'
      try clear c1
      try clear p1
      try clear q1
      try clear hx1
      try clear c2
      try clear p2
      try clear q2
      try clear p3
      try clear q3
      try clear hx3
      try clear c4
      try clear c4b0
      try clear c4b1
      try clear c5
      try clear c5b0
      try clear c5b1
      try clear p6
      try clear c11
      try clear c11b0
      try clear c12
      try clear c12b0
      try clear c15
      try clear c16
      try clear c16b0
      try clear c17
      try clear c17b0
      try clear c18
      try clear p18
      try clear q18
      try clear hx18
      try clear hf18
      try clear c19
      try clear c21
      try clear c21b0
      try clear c22
      try clear c22b0
      try clear c23
      try clear c23b0
      try clear q24
      try clear c25
      try clear hcz27_0
      try clear hcz27_1
      try clear hcz27_2
      try clear hcz27_3
      try clear hcz8_0
      try clear hcz8_1
      try clear hcz8_2
      try clear hcz8_3
      try clear hfz27_0
      try clear hfz27_1
      try clear hfz27_2
      try clear hfz27_3
      try clear hfz8_0
      try clear hfz8_1
      try clear hfz8_2
      try clear hfz8_3
      try clear hx18_0
      try clear hx305_0
      try clear p1
      try clear p18
      try clear p2
      try clear p305
      try clear q1
      try clear q18
      try clear q305
      obtain ⟨x7_4, x11_4, rfl, HA, HK4, HO_7, HO_10, BK300, HB⟩ := hrel
      have hl7_4 := (R_reads' HO_7.out).1
      rw [hl7_4] at HO_7
      (try simp only [hl7_4])
      (try simp only [hl7_4] at BK300)
      (try simp only [hl7_4] at HO_10)
      rcases gk with _ | k4
      · exact absurd HA.out (by simp [fettleref05_From.l2])
      have H := HA.out
      clear HA
      simp only [fettleref05_From.l2] at H
      by_cases c29 : x11_4 < (t306.length : Int)
      · rw [if_pos c29] at H
        have c29b0 : decide (x11_4 < (t306.length : Int)) = true := decide_eq_true c29
        have c29b0l := c29b0
        (try simp only [hl7_2, hl7_3, hl7_4] at c29b0l)
        clear c29
        by_cases c30 : 0 ≤ x11_4
        rotate_left
        · rw [if_neg c30] at H
          exact absurd H (by simp)
        rw [if_pos c30] at H
        have c30b0 : decide (0 ≤ x11_4) = true := decide_eq_true c30
        clear c30
        by_cases c31 : (rd t306 x11_4) = a2
        · rw [if_pos c31] at H
          have c31b0 : ((rd t306 x11_4) == a2) = true := beq_iff_eq.mpr c31
          have c31b1 : ((rd t306 x11_4) != a2) = false := bne_eq_false_iff_eq.mpr c31
          clear c31
          have H' := Aside0.mk H
          clear H
          obtain ⟨Ao32, co32, eo32⟩ := Kd.R_slice HO_10.out
          subst eo32
          have p309 : 0 ≤ (x11_4 : Int) := of_decide_eq_true (by with_reducible assumption)
          have q309 : x11_4 < (t306.length : Int) := of_decide_eq_true (by with_reducible assumption)
          obtain ⟨ad309, e309, hx309_0⟩ := Kd.at_int (R_reads' HO_10.out).2.2 x11_4 p309 q309
          cases e309
          replace p309 := eq_true p309
          replace q309 := eq_true q309
          go_wp2
          (try simp only [← hl7_4])
          go_roundg k4
          case measure => have := HJ5.out; have := HK2.out; have := HK3.out; have := HK4.out; omega
          case rel => exact ⟨(x7_4), (wrap64 (x11_4 + 1)), (by first | rfl | (simp; done) | (simp [*]; done)), H', ⟨by have := HJ5.out; have := HK2.out; have := HK3.out; have := HK4.out; omega⟩, ⟨by (try simp only [hl7_2]); (try simp only [hl7_3]); (try simp only [hl7_4]); (with_reducible repeat (first | apply R_alloc | apply R_drewN | apply R_drew)); exact HO_7.out⟩, ⟨by (try simp only [hl7_2]); (try simp only [hl7_3]); (try simp only [hl7_4]); (with_reducible repeat (first | apply R_alloc | apply R_drewN | apply R_drew)); exact HO_10.out⟩, ⟨by (try simp only [hl7_2]); (try simp only [hl7_3]); (try simp only [hl7_4]); (with_reducible repeat (first | refine blk_drewN ?_ _ | refine blk_drew ?_ | refine blk_alloc ?_ _)); exact BK300.out⟩, ⟨by repeat (first | (with_reducible first | exact HB.out | apply below_alloc | apply pw_below_drewN | apply below_drew1 | refine below_set ?_ GE300.out) | exact HB.out)⟩⟩
        rw [if_neg c31] at H
        have c31b0 : ((rd t306 x11_4) == a2) = false := beq_eq_false_iff_ne.mpr c31
        have c31b1 : ((rd t306 x11_4) != a2) = true := bne_iff_ne.mpr c31
        by_cases c33 : 0 ≤ (rd t306 x11_4)
        rotate_left
        · rw [if_neg c33] at H
          exact absurd H (by simp)
        rw [if_pos c33] at H
        have c33b0 : decide (0 ≤ (rd t306 x11_4)) = true := decide_eq_true c33
        clear c33
        by_cases c34 : (rd t306 x11_4) < (x7_4.length : Int)
        rotate_left
        · rw [if_neg c34] at H
          exact absurd H (by simp)
        rw [if_pos c34] at H
        have c34b0 : decide ((rd t306 x11_4) < (x7_4.length : Int)) = true := decide_eq_true c34
        have c34b0l := c34b0
        (try simp only [hl7_2, hl7_3, hl7_4] at c34b0l)
        clear c34
        obtain ⟨y311, hy311⟩ : ∃ y_ : List Bool, y_ = (x7_4.set ((rd t306 x11_4) : Int).toNat true) := ⟨_, rfl⟩
        replace H : (fettleref05_From.l2 k4 a2 y311 x8_2 x9_3 t306 (wrap64 (x11_4 + 1)) a0_0 a0_1 l0_2 l0_3) = some r := by first | (rw [hy311]; with_reducible exact H) | (have H2_ := (Option.bind_some _ _).symm.trans H; rw [hy311]; with_reducible exact H2_) | exact H
        have Ny311 := Aside0.mk hy311
        clear hy311
        have H' := Aside0.mk H
        clear H
        obtain ⟨Ao36, co36, eo36⟩ := Kd.R_slice HO_10.out
        subst eo36
        have p309 : 0 ≤ (x11_4 : Int) := of_decide_eq_true (by with_reducible assumption)
        have q309 : x11_4 < (t306.length : Int) := of_decide_eq_true (by with_reducible assumption)
        obtain ⟨ad309, e309, hx309_0⟩ := Kd.at_int (R_reads' HO_10.out).2.2 x11_4 p309 q309
        cases e309
        replace p309 := eq_true p309
        replace q309 := eq_true q309
        have p310 : 0 ≤ (x11_4 : Int) := of_decide_eq_true (by with_reducible assumption)
        have q310 : x11_4 < (t306.length : Int) := of_decide_eq_true (by with_reducible assumption)
        obtain ⟨ad310, e310, hx310_0⟩ := Kd.at_int (R_reads' HO_10.out).2.2 x11_4 p310 q310
        obtain rfl : ad309 = ad310 := (by injection e310)
        replace p310 := eq_true p310
        replace q310 := eq_true q310
        have p35 : 0 ≤ ((rd t306 x11_4) : Int) := of_decide_eq_true (by with_reducible assumption)
        have q35 : ((rd t306 x11_4) : Int) < ((x7_4.length : Int) : Int) := of_decide_eq_true (by with_reducible assumption)
        obtain ⟨hx35_0, hf35_0⟩ := Kd.R_celln false HO_7.out ((rd t306 x11_4) : Int) p35 q35
        replace p35 := eq_true p35
        replace q35 := eq_true q35
        have HP37 := Kd.R_putg HO_7.out ((rd t306 x11_4) : Int) true
        go_wp2_with (first | ((with_reducible refine gate_store (t := 4) (p := 70) rfl ?_); refine store_event (t := 4) (p := 70) (v := ?vo_w38) (w1 := (wr.setCell ⟨go18, ((rd t306 x11_4) : Int).toNat, none⟩ (.bool true))) ?hg ?ho ?hn ?hr ?_; (case ho => rfl); (case hg => rfl); (case hn => rfl); (case hr => first | (go_simp; done) | (go_simp; rfl)); intro w38 hw; have hg : wr.grownBy w38 (some go18) := (by rw [hw]; exact HP37.2); have hp_ : Kd.R Kd.bool 4 w38 w.heap.size (fun _ => True) (.slice (some ⟨go18, 0, none⟩) x7_4.length co18) y311 := (by rw [hw, Ny311.out]; exact HP37.1); clear HP37; have n0_ := Aside0.mk (hp_); have n1_ := Aside0.mk (Kd.R_over' (v := (.slice (some ⟨go18, 0, none⟩) x7_4.length co18)) (by (with_reducible repeat (first | apply R_alloc | apply R_drewN | apply R_drew)); exact HO_10.out) (Kd.R_typed HO_7.out) (by decide) hg); have n2_ := Aside0.mk (blk_grown (g := gb300) (o := .cells #[.int .i64 a0_0, .int .i64 a0_1, .slice A0_2 l0_2.length c0_2, .slice A0_3 l0_3.length c0_3] 25 (0, 0)) (by (with_reducible repeat (first | refine blk_drewN ?_ _ | refine blk_drew ?_ | refine blk_alloc ?_ _)); exact BK300.out) hg (Kd.R_ne HO_7.out BK300.out (by decide))); have n3_ := Aside0.mk ((by rw [hw]; exact below_set (HB.out) GB18.out : Below w.heap.size w w38)); clear HO_7; clear HO_10; clear BK300; clear HB; have HO_7 := n0_; have HO_10 := n1_; have BK300 := n2_; have HB := n3_; clear n0_ n1_ n2_ n3_; clear hg hw hp_))
        (try simp only [← hl7_4])
        go_roundg k4
        case measure => have := HJ5.out; have := HK2.out; have := HK3.out; have := HK4.out; omega
        case rel => exact ⟨(y311), (wrap64 (x11_4 + 1)), (by first | rfl | (simp; done) | (simp [*]; done)), H', ⟨by have := HJ5.out; have := HK2.out; have := HK3.out; have := HK4.out; omega⟩, ⟨by (try simp only [hl7_2]); (try simp only [hl7_3]); (try simp only [hl7_4]); (with_reducible repeat (first | apply R_alloc | apply R_drewN | apply R_drew)); exact HO_7.out⟩, ⟨by (try simp only [hl7_2]); (try simp only [hl7_3]); (try simp only [hl7_4]); (with_reducible repeat (first | apply R_alloc | apply R_drewN | apply R_drew)); exact HO_10.out⟩, ⟨by (try simp only [hl7_2]); (try simp only [hl7_3]); (try simp only [hl7_4]); (with_reducible repeat (first | refine blk_drewN ?_ _ | refine blk_drew ?_ | refine blk_alloc ?_ _)); exact BK300.out⟩, ⟨by repeat (first | (with_reducible first | exact HB.out | apply below_alloc | apply pw_below_drewN | apply below_drew1 | refine below_set ?_ GE300.out) | exact HB.out)⟩⟩
      rw [if_neg c29] at H
      have c29b0 : decide (x11_4 < (t306.length : Int)) = false := decide_eq_false c29
      (try simp only [hl7_2, hl7_3, hl7_4] at c29b0)
      clear c29
      have H' := Aside0.mk H
      clear H
      obtain ⟨Ao39, co39, eo39⟩ := Kd.R_slice HO_10.out
      subst eo39
      go_wp2
      (try simp only [← hl7_3, ← hl7_4])
      go_roundg k4
      case measure => have := HJ5.out; have := HK2.out; have := HK3.out; have := HK4.out; omega
      case rel => exact ⟨(x7_4), (wrap64 (x9_3 + 1)), (by first | rfl | (simp; done) | (simp [*]; done)), H', ⟨by have := HJ5.out; have := HK2.out; have := HK3.out; have := HK4.out; omega⟩, ⟨by (try simp only [hl7_2]); (try simp only [hl7_3]); (try simp only [hl7_4]); (with_reducible repeat (first | apply R_alloc | apply R_drewN | apply R_drew)); exact HO_7.out⟩, ⟨by (try simp only [hl7_2]); (try simp only [hl7_3]); (try simp only [hl7_4]); (with_reducible repeat (first | refine blk_drewN ?_ _ | refine blk_drew ?_ | refine blk_alloc ?_ _)); exact BK300.out⟩, ⟨by repeat (first | (with_reducible first | exact HB.out | apply below_alloc | apply pw_below_drewN | apply below_drew1 | refine below_set ?_ GE300.out) | exact HB.out)⟩⟩
    replace c25 := Bool.eq_false_iff.mpr c25
    subst c25
    have H1 : (fettleref05_From.l1 k3 a2 x7_3 x8_2 (wrap64 (x9_3 + 1)) a0_0 a0_1 l0_2 l0_3) = some r := by rw [if_neg (show ¬ (false = true) by decide)] at H; exact H
    clear H
    have H := H1
    clear H1
    have H' := Aside0.mk H
    clear H
    have p305 : 0 ≤ (x9_3 : Int) := of_decide_eq_true (by with_reducible assumption)
    have q305 : x9_3 < (x7_3.length : Int) := of_decide_eq_true (by with_reducible assumption)
    obtain ⟨ad305, e305, hx305_0⟩ := Kd.at_bool (R_reads' HO_7.out).2.2 x9_3 p305 q305
    (try rw [← Nbq24.out] at hx305_0)
    obtain rfl : (⟨go18, 0, none⟩ : Addr) = ad305 := (by injection e305)
    (first | simp only [add_plain] at hx305_0 | simp only [add_at] at hx305_0 | simp only [Addr.add, Nat.zero_add] at hx305_0 | skip)
    replace p305 := eq_true p305
    replace q305 := eq_true q305
    go_wp2
    (try simp only [← hl7_3])
    go_roundg k3
    case measure => have := HJ5.out; have := HK2.out; have := HK3.out; omega
    case rel => exact ⟨(x7_3), (wrap64 (x9_3 + 1)), (by first | rfl | (simp; done) | (simp [*]; done)), H', ⟨by have := HJ5.out; have := HK2.out; have := HK3.out; omega⟩, ⟨by (try simp only [hl7_2]); (try simp only [hl7_3]); (with_reducible repeat (first | apply R_alloc | apply R_drewN | apply R_drew)); exact HO_7.out⟩, ⟨by (try simp only [hl7_2]); (try simp only [hl7_3]); (with_reducible repeat (first | refine blk_drewN ?_ _ | refine blk_drew ?_ | refine blk_alloc ?_ _)); exact BK300.out⟩, ⟨by repeat (first | (with_reducible first | exact HB.out | apply below_alloc | apply pw_below_drewN | apply below_drew1 | refine below_set ?_ GE300.out) | exact HB.out)⟩⟩
  rw [if_neg c22] at H
  have c22b0 : decide (x9_3 < (x7_3.length : Int)) = false := decide_eq_false c22
  (try simp only [hl7_2, hl7_3] at c22b0)
  clear c22
  have H' := Aside0.mk H
  clear H
  go_wp2
  (try simp only [← hl7_2, ← hl7_3])
  go_roundg k3
  case measure => have := HJ5.out; have := HK2.out; have := HK3.out; omega
  case rel => exact ⟨(x7_3), (wrap64 (x8_2 + 1)), (by first | rfl | (simp; done) | (simp [*]; done)), H', ⟨by have := HJ5.out; have := HK2.out; have := HK3.out; omega⟩, ⟨by (try simp only [hl7_2]); (try simp only [hl7_3]); (with_reducible repeat (first | apply R_alloc | apply R_drewN | apply R_drew)); exact HO_7.out⟩, ⟨by (try simp only [hl7_2]); (try simp only [hl7_3]); (with_reducible repeat (first | refine blk_drewN ?_ _ | refine blk_drew ?_ | refine blk_alloc ?_ _)); exact BK300.out⟩, ⟨by repeat (first | (with_reducible first | exact HB.out | apply below_alloc | apply pw_below_drewN | apply below_drew1 | refine below_set ?_ GE300.out) | exact HB.out)⟩⟩end Go.Proofs.Ytpionncanaamgaa.PDomOrder
