-- Laid by a program of this session (wip/pp/patch.py over the kit's print).
import Derived.Test.YtocjpkjijjdnbaaPCheckStaysx0
namespace Go.Proofs.Ytocjpkjijjdnbaa.PCheckStays
open Go.RowKit Go.Proofs.YtocjpkjijjdnbaaW.PrintWords Go.Proofs.YtocjpkjijjdnbaaW.PrintLast Go.Proofs.YtocjpkjijjdnbaaW.PrintMore Go.Proofs.YtocjpkjijjdnbaaW.PrintWords.Kd
attribute [local go_sem] max2_int min2_int max_two min_two max_three min_three max_four min_four   -- for this text's walks alone
set_option linter.unusedVariables false
set_option linter.unusedSimpArgs false

/-! ### slices_Index_int_int: function 24 -/
def slices_Index_int_int.l0 : Nat → List Int → Int → Int → Int → Option (Int)
  | 0, _, _, _, _ => none
  | k + 1, x0, x1, x7, x8 => if x8 < x7 then (if 0 ≤ x8 then (if x8 < (x0.length : Int) then (if x1 = (rd x0 x8) then (some x8) else (slices_Index_int_int.l0 k x0 x1 x7 (wrap64 (x8 + 1)))) else (none)) else (none)) else (some (-1))
def slices_Index_int_int.f (k : Nat) (l0 : List Int) (a1 : Int) : Option (Int) := slices_Index_int_int.l0 k l0 a1 (l0.length : Int) 0
theorem slices_Index_int_int.mono_l : ∀ k, (∀ y0 y1 y2 y3, LeO (slices_Index_int_int.l0 k y0 y1 y2 y3) (slices_Index_int_int.l0 (k + 1) y0 y1 y2 y3))
  | 0 => fun _ _ _ _ r h => by simp [slices_Index_int_int.l0] at h
  | k + 1 => by
    have ih0 := slices_Index_int_int.mono_l k
    · intro y0 y1 y2 y3
      unfold slices_Index_int_int.l0
      repeat' first
      | (with_reducible exact ih0 _ _ _ _)
      | (with_reducible exact LeO.refl _)
      | (with_reducible exact LeO.none _)
      | (with_reducible refine LeO.ite ?_ ?_)
      | (with_reducible refine LeO.bind ?_ (fun _ => ?_))
      | exact ih0 _ _ _ _
      | exact LeO.none _
      | refine LeO.ite ?_ ?_
      | refine LeO.bind ?_ (fun _ => ?_)
theorem slices_Index_int_int.mono : ∀ a0 a1 k, LeO (slices_Index_int_int.f k a0 a1) (slices_Index_int_int.f (k + 1) a0 a1) := by
  intro a0 a1 k
  have ih0 := slices_Index_int_int.mono_l k
  unfold slices_Index_int_int.f
  repeat' first
      | (with_reducible exact ih0 _ _ _ _)
      | (with_reducible exact LeO.refl _)
      | (with_reducible exact LeO.none _)
      | (with_reducible refine LeO.ite ?_ ?_)
      | (with_reducible refine LeO.bind ?_ (fun _ => ?_))
      | exact ih0 _ _ _ _
      | exact LeO.none _
      | refine LeO.ite ?_ ?_
      | refine LeO.bind ?_ (fun _ => ?_)
set_option maxHeartbeats 8000000 in
set_option maxRecDepth 100000 in
theorem slices_Index_int_int.calls (k : Nat) (A0 : Option Addr) (c0 : Nat) (l0 : List Int) (a1 : Int) (r : Int) (w : World) (hr0 : Kd.C (Kd.int .i64) w A0 l0.length l0) (hc0 : l0.length ≤ c0) (h : slices_Index_int_int.f k l0 a1 = some r) :
    Calls Try.prog 24 #[.slice A0 l0.length c0, .int .i64 a1] w fun e w' => e = .returned (.int .i64 r) ∧ Drawn0 w w' := by
  have HR0 := Aside0.mk hr0
  have HC0 := Aside0.mk hc0
  clear hr0 hc0
  have H : (slices_Index_int_int.l0 k l0 a1 (l0.length : Int) 0) = some r := h
  clear h
  have H' := Aside0.mk H
  clear H
  go_enter Try.func24, Try.ntmps24
  go_wp2
  go_loopg [8] k (fun kq v8 w' => ∃ (x8_1 : Int), v8 = .int .i64 x8_1 ∧ Aside0 (slices_Index_int_int.l0 kq l0 a1 (l0.length : Int) x8_1 = some r) ∧ Aside0 (kq ≤ k) ∧ Drawn0 w w')
  case atStart => exact ⟨(0), (by first | rfl | (simp; done) | (simp [*]; done)), H', ⟨Nat.le_refl _⟩, by repeat (first | exact Drawn0.refl _ | apply Drawn0.step)⟩
  clear H'
  try clear c2
  try clear p2
  obtain ⟨x8_1, rfl, HA, HK1, ⟨m1, rfl⟩⟩ := hrel
  rcases gk with _ | k1
  · exact absurd HA.out (by simp [slices_Index_int_int.l0])
  have H := HA.out
  clear HA
  simp only [slices_Index_int_int.l0] at H
  by_cases c3 : x8_1 < (l0.length : Int)
  · rw [if_pos c3] at H
    have c3b0 : decide (x8_1 < (l0.length : Int)) = true := decide_eq_true c3
    clear c3
    by_cases c4 : 0 ≤ x8_1
    rotate_left
    · rw [if_neg c4] at H
      exact absurd H (by simp)
    rw [if_pos c4] at H
    have c4b0 : decide (0 ≤ x8_1) = true := decide_eq_true c4
    clear c4
    by_cases c5 : x8_1 < (l0.length : Int)
    rotate_left
    · rw [if_neg c5] at H
      exact absurd H (by simp)
    rw [if_pos c5] at H
    have c5b0 : decide (x8_1 < (l0.length : Int)) = true := decide_eq_true c5
    clear c5
    by_cases c6 : a1 = (rd l0 x8_1)
    · rw [if_pos c6] at H
      have c6b0 : (a1 == (rd l0 x8_1)) = true := beq_iff_eq.mpr c6
      have c6b1 : (a1 != (rd l0 x8_1)) = false := bne_eq_false_iff_eq.mpr c6
      clear c6
      obtain rfl := Option.some.inj H
      have p101 : 0 ≤ (x8_1 : Int) := of_decide_eq_true (by with_reducible assumption)
      have q101 : x8_1 < (l0.length : Int) := of_decide_eq_true (by with_reducible assumption)
      obtain ⟨ad101, e101, hx101_0⟩ := Kd.at_int HR0.out x8_1 p101 q101
      cases e101
      replace p101 := eq_true p101
      replace q101 := eq_true q101
      go_wp2
      go_ret
      exact ⟨by first | rfl | (simp; done) | (simp [*]; done), by repeat (first | exact Drawn0.refl _ | apply Drawn0.step)⟩
    rw [if_neg c6] at H
    have c6b0 : (a1 == (rd l0 x8_1)) = false := beq_eq_false_iff_ne.mpr c6
    have c6b1 : (a1 != (rd l0 x8_1)) = true := bne_iff_ne.mpr c6
    have H' := Aside0.mk H
    clear H
    have p101 : 0 ≤ (x8_1 : Int) := of_decide_eq_true (by with_reducible assumption)
    have q101 : x8_1 < (l0.length : Int) := of_decide_eq_true (by with_reducible assumption)
    obtain ⟨ad101, e101, hx101_0⟩ := Kd.at_int HR0.out x8_1 p101 q101
    cases e101
    replace p101 := eq_true p101
    replace q101 := eq_true q101
    go_wp2
    go_roundg k1
    case measure => have := HK1.out; omega
    case rel => exact ⟨(wrap64 (x8_1 + 1)), (by first | rfl | (simp; done) | (simp [*]; done)), H', ⟨by have := HK1.out; omega⟩, by repeat (first | exact Drawn0.refl _ | apply Drawn0.step)⟩
  rw [if_neg c3] at H
  have c3b0 : decide (x8_1 < (l0.length : Int)) = false := decide_eq_false c3
  clear c3
  obtain rfl := Option.some.inj H
  go_wp2
  go_ret
  exact ⟨by first | rfl | (simp; done) | (simp [*]; done), by repeat (first | exact Drawn0.refl _ | apply Drawn0.step)⟩

/-! ### slices_Contains_int_int: function 15 -/
def slices_Contains_int_int.f (k : Nat) (l0 : List Int) (a1 : Int) : Option (Bool) := (slices_Index_int_int.f k l0 a1).bind fun t102 => (some (decide (t102 ≥ 0)))
theorem slices_Contains_int_int.mono : ∀ a0 a1 k, LeO (slices_Contains_int_int.f k a0 a1) (slices_Contains_int_int.f (k + 1) a0 a1) := by
  intro a0 a1 k
  unfold slices_Contains_int_int.f
  repeat' first
      | (with_reducible exact slices_Index_int_int.mono _ _ _)
      | (with_reducible exact LeO.refl _)
      | (with_reducible exact LeO.none _)
      | (with_reducible refine LeO.ite ?_ ?_)
      | (with_reducible refine LeO.bind ?_ (fun _ => ?_))
      | exact slices_Index_int_int.mono _ _ _
      | exact LeO.none _
      | refine LeO.ite ?_ ?_
      | refine LeO.bind ?_ (fun _ => ?_)
set_option maxHeartbeats 8000000 in
set_option maxRecDepth 100000 in
theorem slices_Contains_int_int.calls (k : Nat) (A0 : Option Addr) (c0 : Nat) (l0 : List Int) (a1 : Int) (r : Bool) (w : World) (hr0 : Kd.C (Kd.int .i64) w A0 l0.length l0) (hc0 : l0.length ≤ c0) (h : slices_Contains_int_int.f k l0 a1 = some r) :
    Calls Try.prog 15 #[.slice A0 l0.length c0, .int .i64 a1] w fun e w' => e = .returned (.bool r) ∧ Drawn0 w w' := by
  have HR0 := Aside0.mk hr0
  have HC0 := Aside0.mk hc0
  clear hr0 hc0
  have H : ((slices_Index_int_int.f k l0 a1).bind fun t102 => (some (decide (t102 ≥ 0)))) = some r := h
  clear h
  replace H := Option.bind_eq_some_iff.mp H
  obtain ⟨t102, A30, H⟩ := H
  replace H : (some (decide (t102 ≥ 0))) = some r := H
  have A3 := Aside0.mk A30
  clear A30
  obtain rfl := Option.some.inj H
  go_enter Try.func15, Try.ntmps15
  go_wp2_with (first | ((with_reducible refine gate_callee (f := 24) rfl ?_); refine goesL_ (some 7) rfl rfl Try.func24 (by kernel_rfl) rfl #[.slice A0 l0.length c0, .int .i64 a1] rfl (by (try simp only [List.map_toArray, List.map_cons, List.map_nil]); first | done | rfl) ?_; (with_reducible refine (slices_Index_int_int.calls k _ _ l0 a1 t102 _ ?side1 ?side2 A3.out).mono ?_); (case side1 => repeat (first | exact HR0.out | (with_reducible refine C_alloc ?_ _) | (with_reducible refine C_drewN ?_ _) | (with_reducible refine C_drew ?_))); (case side2 => exact HC0.out); rintro e w' ⟨rfl, ⟨nd, rfl⟩⟩; refine ⟨_, rfl, ?_⟩))
  go_ret
  exact ⟨by first | rfl | (simp; done) | (simp [*]; done), by repeat (first | exact Drawn0.refl _ | apply Drawn0.step)⟩

/-! ### check_Ahead: function 8 -/
mutual
def check_Ahead.l0 : Nat → List (List Int) → List (S43) → Int → Int → Option ((List (List Int)))
  | 0, _, _, _, _ => none
  | k + 1, x3, x13, x14, x15 => if x15 < x14 then (if 0 ≤ x15 then (if x15 < (x13.length : Int) then (check_Ahead.l1 k x3 x15 x13 x14 x15 ((rd_T43 x13 x15).f2.f2) (((rd_T43 x13 x15).f2.f2).length : Int) 0) else (none)) else (none)) else (some x3)
def check_Ahead.l1 : Nat → List (List Int) → Int → List (S43) → Int → Int → List Int → Int → Int → Option ((List (List Int)))
  | 0, _, _, _, _, _, _, _, _ => none
  | k + 1, x3, x4, x13, x14, x15, x22, x23, x24 => if x24 < x23 then (if 0 ≤ x24 then (if x24 < (x22.length : Int) then (if (rd x22 x24) ≥ 0 then (if (rd x22 x24) < (x3.length : Int) then (if 0 ≤ (rd x22 x24) then ((slices_Contains_int_int.f k (rd_L1 x3 (rd x22 x24)) x4).bind fun t111 => (if t111 = true then (check_Ahead.l1 k x3 x4 x13 x14 x15 x22 x23 (wrap64 (x24 + 1))) else (if (rd_L1 x3 (rd x22 x24)).length < 17592186044416 then (check_Ahead.l1 k (x3.set ((rd x22 x24) : Int).toNat ((rd_L1 x3 (rd x22 x24)) ++ [x4])) x4 x13 x14 x15 x22 x23 (wrap64 (x24 + 1))) else (none)))) else (none)) else (check_Ahead.l1 k x3 x4 x13 x14 x15 x22 x23 (wrap64 (x24 + 1)))) else (check_Ahead.l1 k x3 x4 x13 x14 x15 x22 x23 (wrap64 (x24 + 1)))) else (none)) else (none)) else (check_Ahead.l0 k x3 x13 x14 (wrap64 (x15 + 1)))
end
def check_Ahead.f (k : Nat) (a0_0 : Int) (a0_1 : Int) (l0_2 : List Int) (l0_3 : List (S43)) : Option ((List (List Int))) := if 0 ≤ (l0_3.length : Int) then (if ((l0_3.length : Int) : Int).toNat ≤ 11728124029610 then (check_Ahead.l0 k (List.replicate ((l0_3.length : Int) : Int).toNat []) l0_3 (l0_3.length : Int) 0) else (none)) else (none)
theorem check_Ahead.mono_l : ∀ k, (∀ y0 y1 y2 y3, LeO (check_Ahead.l0 k y0 y1 y2 y3) (check_Ahead.l0 (k + 1) y0 y1 y2 y3)) ∧ (∀ y0 y1 y2 y3 y4 y5 y6 y7, LeO (check_Ahead.l1 k y0 y1 y2 y3 y4 y5 y6 y7) (check_Ahead.l1 (k + 1) y0 y1 y2 y3 y4 y5 y6 y7))
  | 0 => ⟨fun _ _ _ _ r h => by simp [check_Ahead.l0] at h, fun _ _ _ _ _ _ _ _ r h => by simp [check_Ahead.l1] at h⟩
  | k + 1 => by
    obtain ⟨ih0, ih1⟩ := check_Ahead.mono_l k
    refine ⟨?_, ?_⟩
    · intro y0 y1 y2 y3
      unfold check_Ahead.l0
      repeat' first
      | (with_reducible exact ih0 _ _ _ _)
      | (with_reducible exact ih1 _ _ _ _ _ _ _ _)
      | (with_reducible exact slices_Contains_int_int.mono _ _ _)
      | (with_reducible exact LeO.refl _)
      | (with_reducible exact LeO.none _)
      | (with_reducible refine LeO.ite ?_ ?_)
      | (with_reducible refine LeO.bind ?_ (fun _ => ?_))
      | exact ih0 _ _ _ _
      | exact ih1 _ _ _ _ _ _ _ _
      | exact slices_Contains_int_int.mono _ _ _
      | exact LeO.none _
      | refine LeO.ite ?_ ?_
      | refine LeO.bind ?_ (fun _ => ?_)
    · intro y0 y1 y2 y3 y4 y5 y6 y7
      unfold check_Ahead.l1
      repeat' first
      | (with_reducible exact ih0 _ _ _ _)
      | (with_reducible exact ih1 _ _ _ _ _ _ _ _)
      | (with_reducible exact slices_Contains_int_int.mono _ _ _)
      | (with_reducible exact LeO.refl _)
      | (with_reducible exact LeO.none _)
      | (with_reducible refine LeO.ite ?_ ?_)
      | (with_reducible refine LeO.bind ?_ (fun _ => ?_))
      | exact ih0 _ _ _ _
      | exact ih1 _ _ _ _ _ _ _ _
      | exact slices_Contains_int_int.mono _ _ _
      | exact LeO.none _
      | refine LeO.ite ?_ ?_
      | refine LeO.bind ?_ (fun _ => ?_)
theorem check_Ahead.mono : ∀ a0 a1 a2 a3 k, LeO (check_Ahead.f k a0 a1 a2 a3) (check_Ahead.f (k + 1) a0 a1 a2 a3) := by
  intro a0 a1 a2 a3 k
  obtain ⟨ih0, ih1⟩ := check_Ahead.mono_l k
  unfold check_Ahead.f
  repeat' first
      | (with_reducible exact ih0 _ _ _ _)
      | (with_reducible exact ih1 _ _ _ _ _ _ _ _)
      | (with_reducible exact slices_Contains_int_int.mono _ _ _)
      | (with_reducible exact LeO.refl _)
      | (with_reducible exact LeO.none _)
      | (with_reducible refine LeO.ite ?_ ?_)
      | (with_reducible refine LeO.bind ?_ (fun _ => ?_))
      | exact ih0 _ _ _ _
      | exact ih1 _ _ _ _ _ _ _ _
      | exact slices_Contains_int_int.mono _ _ _
      | exact LeO.none _
      | refine LeO.ite ?_ ?_
      | refine LeO.bind ?_ (fun _ => ?_)
set_option maxHeartbeats 8000000 in
set_option maxRecDepth 100000 in
theorem check_Ahead.calls (k : Nat) (a0_0 : Int) (a0_1 : Int) (A0_2 : Option Addr) (c0_2 : Nat) (l0_2 : List Int) (A0_3 : Option Addr) (c0_3 : Nat) (l0_3 : List (S43)) (r : List (List Int)) (w : World) (hr0_2 : Kd.C (Kd.int .i64) w A0_2 l0_2.length l0_2) (hc0_2 : l0_2.length ≤ c0_2) (hr0_3 : Kd.C k43 w A0_3 l0_3.length l0_3) (hc0_3 : l0_3.length ≤ c0_3) (h : check_Ahead.f k a0_0 a0_1 l0_2 l0_3 = some r) :
    Calls Try.prog 8 #[.agg #[.int .i64 a0_0, .int .i64 a0_1, .slice A0_2 l0_2.length c0_2, .slice A0_3 l0_3.length c0_3]] w fun e w' => ∃ v0_ : Value, e = .returned (v0_) ∧ Kd.S (Kd.slice 3 (Kd.int .i64)) 22 w' w.heap.size (fun _ => True) v0_ r ∧ Below w.heap.size w w' := by
  have hu25 := Try.underlying25
  have hu43 := Try.underlying43
  have HR0_2 := Aside0.mk hr0_2
  have HC0_2 := Aside0.mk hc0_2
  clear hr0_2 hc0_2
  have HR0_3 := Aside0.mk hr0_3
  have HC0_3 := Aside0.mk hc0_3
  clear hr0_3 hc0_3
  have HB := Aside0.mk (Below.refl w.heap.size w)
  have H : (if 0 ≤ (l0_3.length : Int) then (if ((l0_3.length : Int) : Int).toNat ≤ 11728124029610 then (check_Ahead.l0 k (List.replicate ((l0_3.length : Int) : Int).toNat []) l0_3 (l0_3.length : Int) 0) else (none)) else (none)) = some r := h
  clear h
  by_cases c2 : 0 ≤ (l0_3.length : Int)
  rotate_left
  · rw [if_neg c2] at H
    exact absurd H (by simp)


  rw [if_pos c2] at H
  have c2b0 := eq_true c2
  have c2b1 : decide (0 ≤ (l0_3.length : Int)) = true := decide_eq_true c2
  clear c2
  by_cases c3 : ((l0_3.length : Int) : Int).toNat ≤ 11728124029610
  rotate_left
  · rw [if_neg c3] at H
    exact absurd H (by simp)
  rw [if_pos c3] at H
  have c3b0 := eq_true c3
  have c3b1 : decide (((l0_3.length : Int) : Int).toNat ≤ 11728124029610) = true := decide_eq_true c3
  clear c3
  obtain ⟨y104, hy104⟩ : ∃ y_ : List (List Int), y_ = (List.replicate ((l0_3.length : Int) : Int).toNat []) := ⟨_, rfl⟩
  replace H : (check_Ahead.l0 k y104 l0_3 (l0_3.length : Int) 0) = some r := by first | (rw [hy104]; with_reducible exact H) | (have H2_ := (Option.bind_some _ _).symm.trans H; rw [hy104]; with_reducible exact H2_) | exact H
  have Ny104 := Aside0.mk hy104
  clear hy104
  have H' := Aside0.mk H
  clear H
  go_enter Try.func8, Try.ntmps8
  go_wp2_with (first | ((with_reducible refine gate_dst (N := 1) rfl ?_); (try (refine gate_guard (by rfl) ?_; dsimp only)); refine box_event ?hg (N := 1) ?hd (cs := #[.int .i64 a0_0, .int .i64 a0_1, .slice A0_2 l0_2.length c0_2, .slice A0_3 l0_3.length c0_3]) (t := 25) ?hr ?_; (case hd => rfl); (case hg => rfl); (case hr => first | (go_simp; done) | (go_simp; rfl)); intro gb103 hg w4 hbox hb; have n0_ := Aside0.mk (below_step (by repeat with_reducible first | exact HB.out | apply below_alloc | apply pw_below_drewN | apply below_drew1) hb); have n1_ := Aside0.mk (hbox); have n2_ := Aside0.mk ((by rw [hg]; exact (below_size (by repeat with_reducible first | exact HB.out | apply below_alloc | apply pw_below_drewN | apply below_drew1)) : w.heap.size ≤ gb103)); have n3_ := Aside0.mk ((by rw [hg]; exact (below_size (by repeat with_reducible first | exact HB.out | apply below_alloc | apply pw_below_drewN | apply below_drew1)) : w.heap.size ≤ gb103)); clear HB; have HB := n0_; have BK103 := n1_; have GW103 := n2_; have GE103 := n3_; clear n0_ n1_ n2_ n3_; clear hb hbox hg; have hcz5_0 : w4.cell? ⟨gb103, 0, none⟩ = some (.int .i64 a0_0) := (blk_cell BK103.out 0).trans rfl; have hcz5_1 : w4.cell? ⟨gb103, 1, none⟩ = some (.int .i64 a0_1) := (blk_cell BK103.out 1).trans rfl; have hcz5_2 : w4.cell? ⟨gb103, 2, none⟩ = some (.slice A0_2 l0_2.length c0_2) := (blk_cell BK103.out 2).trans rfl; have hcz5_3 : w4.cell? ⟨gb103, 3, none⟩ = some (.slice A0_3 l0_3.length c0_3) := (blk_cell BK103.out 3).trans rfl; have hfz5_0 := blk_frozen BK103.out 0; have hfz5_1 := blk_frozen BK103.out 1; have hfz5_2 := blk_frozen BK103.out 2; have hfz5_3 := blk_frozen BK103.out 3) | ((with_reducible refine gate_dst (N := 11) rfl ?_); (try (refine gate_guard (by rfl) ?_; dsimp only)); refine Kd.S_make (Kd.slice 3 (Kd.int .i64)) _ 22 rfl (N := 11) rfl 31 _ _ rfl (l0_3.length : Int) rfl rfl Try.underlying31 (.slice none 0 0) 24 info22 rfl (by decide) (by omega) [] (ok := fun _ => True) (okp := fun _ => True) ⟨_, rfl, Kd.R_nil _ _ _ _ _⟩ (fun _ hk => hk) trivial (of_decide_eq_true (by with_reducible assumption)) (Nat.le_trans (Nat.mul_le_mul_right _ (of_decide_eq_true (by with_reducible assumption) : (l0_3.length : Int).toNat ≤ 11728124029610)) (by omega)) (Below.refl _ _) (Nat.le_refl _) ?_; intro v105 w6 ho7 hb hg_ hnew_; clear hg_ hnew_; rw [← Ny104.out] at ho7; have n0_ := Aside0.mk (Kd.S_lower ho7 (below_size (by repeat with_reducible first | exact HB.out | apply below_alloc | apply pw_below_drewN | apply below_drew1 | refine below_set ?_ GE103.out))); have n1_ := Aside0.mk (blk_below (g := gb103) (o := .cells #[.int .i64 a0_0, .int .i64 a0_1, .slice A0_2 l0_2.length c0_2, .slice A0_3 l0_3.length c0_3] 25 (0, 0)) (by (with_reducible repeat (first | refine blk_drewN ?_ _ | refine blk_drew ?_ | refine blk_alloc ?_ _)); exact BK103.out) hb); have n2_ := Aside0.mk (below_step (by repeat with_reducible first | exact HB.out | apply below_alloc | apply pw_below_drewN | apply below_drew1 | refine below_set ?_ GE103.out) hb); clear BK103; clear HB; have HO106 := n0_; have BK103 := n1_; have HB := n2_; clear n0_ n1_ n2_; clear hb ho7; have hcz8_0 : w6.cell? ⟨gb103, 0, none⟩ = some (.int .i64 a0_0) := (blk_cell BK103.out 0).trans rfl; have hcz8_1 : w6.cell? ⟨gb103, 1, none⟩ = some (.int .i64 a0_1) := (blk_cell BK103.out 1).trans rfl; have hcz8_2 : w6.cell? ⟨gb103, 2, none⟩ = some (.slice A0_2 l0_2.length c0_2) := (blk_cell BK103.out 2).trans rfl; have hcz8_3 : w6.cell? ⟨gb103, 3, none⟩ = some (.slice A0_3 l0_3.length c0_3) := (blk_cell BK103.out 3).trans rfl; have hfz8_0 := blk_frozen BK103.out 0; have hfz8_1 := blk_frozen BK103.out 1; have hfz8_2 := blk_frozen BK103.out 2; have hfz8_3 := blk_frozen BK103.out 3))
  go_loopg [15] k (fun kq v15 w' => ∃ (x3_1 : List (List Int)) (x15_1 : Int), v15 = .int .i64 x15_1 ∧ Aside0 (check_Ahead.l0 kq x3_1 l0_3 (l0_3.length : Int) x15_1 = some r) ∧ Aside0 (kq ≤ k) ∧ Aside0 (Kd.S (Kd.slice 3 (Kd.int .i64)) 22 w' w.heap.size (fun _ => True) v105 x3_1) ∧ Aside0 (w'.heap[gb103]? = some (.cells #[.int .i64 a0_0, .int .i64 a0_1, (.slice A0_2 l0_2.length c0_2), (.slice A0_3 l0_3.length c0_3)] 25 (0, 0))) ∧ Aside0 (Below w.heap.size w w'))
  case atStart => exact ⟨(y104), (0), (by first | rfl | (simp; done) | (simp [*]; done)), H', ⟨Nat.le_refl _⟩, ⟨by (with_reducible repeat (first | apply S_alloc | apply S_drewN | apply S_drew)); exact HO106.out⟩, ⟨by (with_reducible repeat (first | refine blk_drewN ?_ _ | refine blk_drew ?_ | refine blk_alloc ?_ _)); exact BK103.out⟩, ⟨by repeat (first | (with_reducible first | exact HB.out | apply below_alloc | apply pw_below_drewN | apply below_drew1 | refine below_set ?_ GE103.out) | exact HB.out)⟩⟩
  clear H'
  try clear c2
  try clear c2b0
  try clear c2b1
  try clear p2
  try clear c3
  try clear c3b0
  try clear c3b1
  try clear c8
  try clear hcz5_0
  try clear hcz5_1
  try clear hcz5_2
  try clear hcz5_3
  try clear hcz8_0
  try clear hcz8_1
  try clear hcz8_2
  try clear hcz8_3
  try clear hfz5_0
  try clear hfz5_1
  try clear hfz5_2
  try clear hfz5_3
  try clear hfz8_0
  try clear hfz8_1
  try clear hfz8_2
  try clear hfz8_3
  obtain ⟨x3_1, x15_1, rfl, HA, HK1, HO_3, BK103, HB⟩ := hrel
  rcases gk with _ | k1
  · exact absurd HA.out (by simp [check_Ahead.l0])
  have H := HA.out
  clear HA
  simp only [check_Ahead.l0] at H
  by_cases c9 : x15_1 < (l0_3.length : Int)
  rotate_left
  · rw [if_neg c9] at H
    have c9b0 : decide (x15_1 < (l0_3.length : Int)) = false := decide_eq_false c9
    clear c9
    obtain rfl := Option.some.inj H
    go_wp2
    go_ret
    exact ⟨_, by first | rfl | (simp [errW_none, errW_some] <;> rfl) | (simp [*, errW_none, errW_some] <;> rfl), by (with_reducible repeat (first | apply S_alloc | apply S_drewN | apply S_drew)); exact HO_3.out, by repeat (first | (with_reducible first | exact HB.out | apply below_alloc | apply pw_below_drewN | apply below_drew1 | refine below_set ?_ GE103.out) | exact HB.out)⟩
  rw [if_pos c9] at H
  have c9b0 : decide (x15_1 < (l0_3.length : Int)) = true := decide_eq_true c9
  clear c9
  by_cases c10 : 0 ≤ x15_1
  rotate_left
  · rw [if_neg c10] at H
    exact absurd H (by simp)
  rw [if_pos c10] at H
  have c10b0 : decide (0 ≤ x15_1) = true := decide_eq_true c10
  clear c10
  by_cases c11 : x15_1 < (l0_3.length : Int)
  rotate_left
  · rw [if_neg c11] at H
    exact absurd H (by simp)
  rw [if_pos c11] at H
  have c11b0 : decide (x15_1 < (l0_3.length : Int)) = true := decide_eq_true c11
  clear c11
  have H' := Aside0.mk H
  clear H
  have p107 : 0 ≤ (x15_1 : Int) := of_decide_eq_true (by with_reducible assumption)
  have q107 : x15_1 < (l0_3.length : Int) := of_decide_eq_true (by with_reducible assumption)
  obtain ⟨ad107, A107_0, c107_0, A107_1, c107_1, A107_4, c107_4, e107, hx107_0, hx107_1, hx107_2, hx107_3, hx107_4, hl107_0, hi107_0, hl107_1, hi107_1, hl107_4, hi107_4⟩ := at_T43 HR0_3.out x15_1 p107 q107
  cases e107
  replace hx107_0 := (HB.out.cell (World.block_lt_of_cell? w _ hx107_0)).trans hx107_0
  replace hx107_1 := (HB.out.cell (World.block_lt_of_cell? w _ hx107_1)).trans hx107_1
  replace hx107_2 := (HB.out.cell (World.block_lt_of_cell? w _ hx107_2)).trans hx107_2
  replace hx107_3 := (HB.out.cell (World.block_lt_of_cell? w _ hx107_3)).trans hx107_3
  replace hx107_4 := (HB.out.cell (World.block_lt_of_cell? w _ hx107_4)).trans hx107_4
  have HR107_0 := Aside0.mk hi107_0
  have HC107_0 := Aside0.mk hl107_0
  clear hi107_0 hl107_0
  have HR107_1 := Aside0.mk hi107_1
  have HC107_1 := Aside0.mk hl107_1
  clear hi107_1 hl107_1
  have HR107_4 := Aside0.mk hi107_4
  have HC107_4 := Aside0.mk hl107_4
  clear hi107_4 hl107_4
  replace p107 := eq_true p107
  replace q107 := eq_true q107
  go_wp2_with (first | ((with_reducible refine gate_dst (N := 5) rfl ?_); (try (refine gate_guard (by rfl) ?_; dsimp only)); refine box_event ?hg (N := 5) ?hd (cs := #[.slice none 0 0, .slice none 0 0, .int .i64 0, .int .i64 0, .slice none 0 0]) (t := 43) ?hr ?_; (case hd => rfl); (case hg => rfl); (case hr => first | (go_simp; done) | (go_simp; rfl)); intro gb108 hg w12 hbox hb; have n0_ := Aside0.mk (Kd.S_below (by (with_reducible repeat (first | apply S_alloc | apply S_drewN | apply S_drew)); exact HO_3.out) hb); have n1_ := Aside0.mk (blk_below (g := gb103) (o := .cells #[.int .i64 a0_0, .int .i64 a0_1, .slice A0_2 l0_2.length c0_2, .slice (some ad107) l0_3.length c0_3] 25 (0, 0)) (by (with_reducible repeat (first | refine blk_drewN ?_ _ | refine blk_drew ?_ | refine blk_alloc ?_ _)); exact BK103.out) hb); have n2_ := Aside0.mk (below_step (by repeat with_reducible first | exact HB.out | apply below_alloc | apply pw_below_drewN | apply below_drew1 | refine below_set ?_ GE103.out) hb); have n3_ := Aside0.mk (hbox); have n4_ := Aside0.mk ((by rw [hg]; exact (below_size (by repeat with_reducible first | exact HB.out | apply below_alloc | apply pw_below_drewN | apply below_drew1 | refine below_set ?_ GE103.out)) : w.heap.size ≤ gb108)); have n5_ := Aside0.mk ((by rw [hg]; exact (below_size (by repeat with_reducible first | exact HB.out | apply below_alloc | apply pw_below_drewN | apply below_drew1 | refine below_set ?_ GE103.out)) : w.heap.size ≤ gb108)); have n6_ := Aside0.mk ((by rw [hg]; exact Nat.ne_of_lt (blk_lt (g := gb103) (o := .cells #[.int .i64 a0_0, .int .i64 a0_1, .slice A0_2 l0_2.length c0_2, .slice (some ad107) l0_3.length c0_3] 25 (0, 0)) (by (with_reducible repeat (first | refine blk_drewN ?_ _ | refine blk_drew ?_ | refine blk_alloc ?_ _)); exact BK103.out)) : gb103 ≠ gb108)); have n7_ := Aside0.mk ((by rw [hg]; exact Nat.ne_of_gt (blk_lt (g := gb103) (o := .cells #[.int .i64 a0_0, .int .i64 a0_1, .slice A0_2 l0_2.length c0_2, .slice (some ad107) l0_3.length c0_3] 25 (0, 0)) (by (with_reducible repeat (first | refine blk_drewN ?_ _ | refine blk_drew ?_ | refine blk_alloc ?_ _)); exact BK103.out)) : gb108 ≠ gb103)); clear HO_3; clear BK103; clear HB; have HO_3 := n0_; have BK103 := n1_; have HB := n2_; have BK108 := n3_; have GW108 := n4_; have GE108 := n5_; have NB103_108 := n6_; have NB108_103 := n7_; clear n0_ n1_ n2_ n3_ n4_ n5_ n6_ n7_; clear hb hbox hg; have hnb13 := NB108_103.out; have hnc13 := NB103_108.out; have hcz14_0 : w12.cell? ⟨gb108, 0, none⟩ = some (.slice none 0 0) := (blk_cell BK108.out 0).trans rfl; have hcz14_1 : w12.cell? ⟨gb108, 1, none⟩ = some (.slice none 0 0) := (blk_cell BK108.out 1).trans rfl; have hcz14_2 : w12.cell? ⟨gb108, 2, none⟩ = some (.int .i64 0) := (blk_cell BK108.out 2).trans rfl; have hcz14_3 : w12.cell? ⟨gb108, 3, none⟩ = some (.int .i64 0) := (blk_cell BK108.out 3).trans rfl; have hcz14_4 : w12.cell? ⟨gb108, 4, none⟩ = some (.slice none 0 0) := (blk_cell BK108.out 4).trans rfl; have hfz14_0 := blk_frozen BK108.out 0; have hfz14_1 := blk_frozen BK108.out 1; have hfz14_2 := blk_frozen BK108.out 2; have hfz14_3 := blk_frozen BK108.out 3; have hfz14_4 := blk_frozen BK108.out 4))
  go_loopg [24] k1 (fun kq v24 w' => ∃ (x3_2 : List (List Int)) (x24_2 : Int), v24 = .int .i64 x24_2 ∧ Aside0 (check_Ahead.l1 kq x3_2 x15_1 l0_3 (l0_3.length : Int) x15_1 ((rd_T43 l0_3 x15_1).f2.f2) (((rd_T43 l0_3 x15_1).f2.f2).length : Int) x24_2 = some r) ∧ Aside0 (kq ≤ k1) ∧ Aside0 (Kd.S (Kd.slice 3 (Kd.int .i64)) 22 w' w.heap.size (fun _ => True) v105 x3_2) ∧ Aside0 (w'.heap[gb103]? = some (.cells #[.int .i64 a0_0, .int .i64 a0_1, (.slice A0_2 l0_2.length c0_2), (.slice (some ad107) l0_3.length c0_3)] 25 (0, 0))) ∧ Aside0 (w'.heap[gb108]? = some (.cells #[(.slice A107_0 ((rd_T43 l0_3 x15_1).f0).length c107_0), (.slice A107_1 ((rd_T43 l0_3 x15_1).f1).length c107_1), .int .i64 ((rd_T43 l0_3 x15_1).f2.f0), .int .i64 ((rd_T43 l0_3 x15_1).f2.f1), (.slice A107_4 ((rd_T43 l0_3 x15_1).f2.f2).length c107_4)] 43 (0, 0))) ∧ Aside0 (Below w.heap.size w w'))
  case atStart => exact ⟨(x3_1), (0), (by first | rfl | (simp; done) | (simp [*]; done)), H', ⟨Nat.le_refl _⟩, ⟨by (with_reducible repeat (first | apply S_alloc | apply S_drewN | apply S_drew)); exact S_mono (Kd.S_far (p := ⟨gb108, 4, none⟩) (Kd.S_far (p := ⟨gb108, 3, none⟩) (Kd.S_far (p := ⟨gb108, 2, none⟩) (Kd.S_far (p := ⟨gb108, 1, none⟩) (Kd.S_far (p := ⟨gb108, 0, none⟩) (Kd.S_types HO_3.out BK108.out (by decide)) (fun _ hk => hk.2) (.slice A107_0 ((rd_T43 l0_3 x15_1).f0).length c107_0)) (fun _ hk => hk.2) (.slice A107_1 ((rd_T43 l0_3 x15_1).f1).length c107_1)) (fun _ hk => hk.2) (.int .i64 ((rd_T43 l0_3 x15_1).f2.f0))) (fun _ hk => hk.2) (.int .i64 ((rd_T43 l0_3 x15_1).f2.f1))) (fun _ hk => hk.2) (.slice A107_4 ((rd_T43 l0_3 x15_1).f2.f2).length c107_4)) (fun _ hk => trivial)⟩, ⟨by (with_reducible repeat (first | refine blk_drewN ?_ _ | refine blk_drew ?_ | refine blk_alloc ?_ _)); refine blk_far ?_ NB103_108.out _; (with_reducible repeat (first | refine blk_drewN ?_ _ | refine blk_drew ?_ | refine blk_alloc ?_ _)); refine blk_far ?_ NB103_108.out _; (with_reducible repeat (first | refine blk_drewN ?_ _ | refine blk_drew ?_ | refine blk_alloc ?_ _)); refine blk_far ?_ NB103_108.out _; (with_reducible repeat (first | refine blk_drewN ?_ _ | refine blk_drew ?_ | refine blk_alloc ?_ _)); refine blk_far ?_ NB103_108.out _; (with_reducible repeat (first | refine blk_drewN ?_ _ | refine blk_drew ?_ | refine blk_alloc ?_ _)); refine blk_far ?_ NB103_108.out _; (with_reducible repeat (first | refine blk_drewN ?_ _ | refine blk_drew ?_ | refine blk_alloc ?_ _)); exact BK103.out⟩, ⟨by (with_reducible repeat (first | refine blk_drewN ?_ _ | refine blk_drew ?_ | refine blk_alloc ?_ _)); refine blk_put (cs := #[.slice A107_0 ((rd_T43 l0_3 x15_1).f0).length c107_0, .slice A107_1 ((rd_T43 l0_3 x15_1).f1).length c107_1, .int .i64 ((rd_T43 l0_3 x15_1).f2.f0), .int .i64 ((rd_T43 l0_3 x15_1).f2.f1), .slice none 0 0]) ?_ 4 _ rfl; (with_reducible repeat (first | refine blk_drewN ?_ _ | refine blk_drew ?_ | refine blk_alloc ?_ _)); refine blk_put (cs := #[.slice A107_0 ((rd_T43 l0_3 x15_1).f0).length c107_0, .slice A107_1 ((rd_T43 l0_3 x15_1).f1).length c107_1, .int .i64 ((rd_T43 l0_3 x15_1).f2.f0), .int .i64 0, .slice none 0 0]) ?_ 3 _ rfl; (with_reducible repeat (first | refine blk_drewN ?_ _ | refine blk_drew ?_ | refine blk_alloc ?_ _)); refine blk_put (cs := #[.slice A107_0 ((rd_T43 l0_3 x15_1).f0).length c107_0, .slice A107_1 ((rd_T43 l0_3 x15_1).f1).length c107_1, .int .i64 0, .int .i64 0, .slice none 0 0]) ?_ 2 _ rfl; (with_reducible repeat (first | refine blk_drewN ?_ _ | refine blk_drew ?_ | refine blk_alloc ?_ _)); refine blk_put (cs := #[.slice A107_0 ((rd_T43 l0_3 x15_1).f0).length c107_0, .slice none 0 0, .int .i64 0, .int .i64 0, .slice none 0 0]) ?_ 1 _ rfl; (with_reducible repeat (first | refine blk_drewN ?_ _ | refine blk_drew ?_ | refine blk_alloc ?_ _)); refine blk_put (cs := #[.slice none 0 0, .slice none 0 0, .int .i64 0, .int .i64 0, .slice none 0 0]) ?_ 0 _ rfl; (with_reducible repeat (first | refine blk_drewN ?_ _ | refine blk_drew ?_ | refine blk_alloc ?_ _)); exact BK108.out⟩, ⟨by repeat (first | (with_reducible first | exact HB.out | apply below_alloc | apply pw_below_drewN | apply below_drew1 | refine below_set ?_ GE103.out | refine below_set ?_ GE108.out) | exact HB.out)⟩⟩
  clear H'
  try clear c1
  try clear p1
  try clear q1
  try clear hx1
  try clear c2
  try clear c2b0
  try clear c2b1
  try clear p2
  try clear c3
  try clear c3b0
  try clear c3b1
  try clear c8
  try clear c9
  try clear c9b0
  try clear c10
  try clear c10b0
  try clear p10
  try clear q10
  try clear hx10
  try clear c11
  try clear c11b0
  try clear c13
  try clear hcz14_0
  try clear hcz14_1
  try clear hcz14_2
  try clear hcz14_3
  try clear hcz14_4
  try clear hcz5_0
  try clear hcz5_1
  try clear hcz5_2
  try clear hcz5_3
  try clear hcz8_0
  try clear hcz8_1
  try clear hcz8_2
  try clear hcz8_3
  try clear hfz14_0
  try clear hfz14_1
  try clear hfz14_2
  try clear hfz14_3
  try clear hfz14_4
  try clear hfz5_0
  try clear hfz5_1
  try clear hfz5_2
  try clear hfz5_3
  try clear hfz8_0
  try clear hfz8_1
  try clear hfz8_2
  try clear hfz8_3
  try clear hx107_0
  try clear hx107_1
  try clear hx107_2
  try clear hx107_3
  try clear hx107_4
  try clear p107
  try clear p2
  try clear q107
  obtain ⟨x3_2, x24_2, rfl, HA, HK2, HO_3, BK103, BK108, HB⟩ := hrel
  rcases gk with _ | k2
  · exact absurd HA.out (by simp [check_Ahead.l1])
  have H := HA.out
  clear HA
  simp only [check_Ahead.l1] at H
  by_cases c15 : x24_2 < (((rd_T43 l0_3 x15_1).f2.f2).length : Int)
  · rw [if_pos c15] at H
    have c15b0 : decide (x24_2 < (((rd_T43 l0_3 x15_1).f2.f2).length : Int)) = true := decide_eq_true c15
    clear c15
    by_cases c16 : 0 ≤ x24_2
    rotate_left
    · rw [if_neg c16] at H
      exact absurd H (by simp)
    rw [if_pos c16] at H
    have c16b0 : decide (0 ≤ x24_2) = true := decide_eq_true c16
    clear c16
    by_cases c17 : x24_2 < (((rd_T43 l0_3 x15_1).f2.f2).length : Int)
    rotate_left
    · rw [if_neg c17] at H
      exact absurd H (by simp)
    rw [if_pos c17] at H
    have c17b0 : decide (x24_2 < (((rd_T43 l0_3 x15_1).f2.f2).length : Int)) = true := decide_eq_true c17
    clear c17
    by_cases c18 : (rd ((rd_T43 l0_3 x15_1).f2.f2) x24_2) ≥ 0
    · rw [if_pos c18] at H
      have c18b0 : decide (0 ≤ (rd ((rd_T43 l0_3 x15_1).f2.f2) x24_2)) = true := decide_eq_true c18
      clear c18
      by_cases c19 : (rd ((rd_T43 l0_3 x15_1).f2.f2) x24_2) < (x3_2.length : Int)
      · rw [if_pos c19] at H
        have c19b0 : decide ((rd ((rd_T43 l0_3 x15_1).f2.f2) x24_2) < (x3_2.length : Int)) = true := decide_eq_true c19
        clear c19
        by_cases c20 : 0 ≤ (rd ((rd_T43 l0_3 x15_1).f2.f2) x24_2)
        rotate_left
        · rw [if_neg c20] at H
          exact absurd H (by simp)
        rw [if_pos c20] at H
        have c20b0 : decide (0 ≤ (rd ((rd_T43 l0_3 x15_1).f2.f2) x24_2)) = true := decide_eq_true c20
        clear c20
        replace H := Option.bind_eq_some_iff.mp H
        obtain ⟨t111, A210, H⟩ := H
        replace H : (if t111 = true then (check_Ahead.l1 k2 x3_2 x15_1 l0_3 (l0_3.length : Int) x15_1 ((rd_T43 l0_3 x15_1).f2.f2) (((rd_T43 l0_3 x15_1).f2.f2).length : Int) (wrap64 (x24_2 + 1))) else (if (rd_L1 x3_2 (rd ((rd_T43 l0_3 x15_1).f2.f2) x24_2)).length < 17592186044416 then (check_Ahead.l1 k2 (x3_2.set ((rd ((rd_T43 l0_3 x15_1).f2.f2) x24_2) : Int).toNat ((rd_L1 x3_2 (rd ((rd_T43 l0_3 x15_1).f2.f2) x24_2)) ++ [x15_1])) x15_1 l0_3 (l0_3.length : Int) x15_1 ((rd_T43 l0_3 x15_1).f2.f2) (((rd_T43 l0_3 x15_1).f2.f2).length : Int) (wrap64 (x24_2 + 1))) else (none))) = some r := H
        have A21 := Aside0.mk A210
        clear A210
        by_cases c22 : t111 = true
        · subst c22
          have H1 : (check_Ahead.l1 k2 x3_2 x15_1 l0_3 (l0_3.length : Int) x15_1 ((rd_T43 l0_3 x15_1).f2.f2) (((rd_T43 l0_3 x15_1).f2.f2).length : Int) (wrap64 (x24_2 + 1))) = some r := by rw [if_pos rfl] at H; exact H
          clear H
          have H := H1
          clear H1
          have H' := Aside0.mk H
          clear H
          have p109 : 0 ≤ (x24_2 : Int) := of_decide_eq_true (by with_reducible assumption)
          have q109 : x24_2 < (((rd_T43 l0_3 x15_1).f2.f2).length : Int) := of_decide_eq_true (by with_reducible assumption)
          obtain ⟨ad109, e109, hx109_0⟩ := Kd.at_int HR107_4.out x24_2 p109 q109
          cases e109
          replace hx109_0 := (HB.out.cell (World.block_lt_of_cell? w _ hx109_0)).trans hx109_0
          replace p109 := eq_true p109
          replace q109 := eq_true q109
          obtain ⟨Ao23, co23, eo23⟩ := Kd.S_slice HO_3.out
          subst eo23
          have p110 : 0 ≤ ((rd ((rd_T43 l0_3 x15_1).f2.f2) x24_2) : Int) := of_decide_eq_true (by with_reducible assumption)
          have q110 : (rd ((rd_T43 l0_3 x15_1).f2.f2) x24_2) < (x3_2.length : Int) := of_decide_eq_true (by with_reducible assumption)
          obtain ⟨ad110, A110_0, c110_0, e110, hx110_0, hl110_0, hi110_0⟩ := at_L1 (S_reads' HO_3.out).2.2 (rd ((rd_T43 l0_3 x15_1).f2.f2) x24_2) p110 q110
          cases e110
          obtain ⟨ce110, hce110, hMe110, hcc110⟩ := S_get HO_3.out [] (rd ((rd_T43 l0_3 x15_1).f2.f2) x24_2) p110 (by first | exact q110 | exact of_decide_eq_true (by with_reducible assumption) | (have e_ := (S_reads' HO_3.out).1; omega))
          obtain ⟨ve110_0, rfl, ge110_0⟩ := hMe110
          have hv110_0 := hcc110 0 _ rfl
          rw [Nat.add_zero, show ((Kd.slice 3 (Kd.int .i64))).sz = 1 from rfl, Nat.mul_one] at hv110_0
          replace hv110_0 := Option.some.inj (hv110_0.symm.trans hx110_0)
          rw [hv110_0] at ge110_0
          have HL110_0 := Aside0.mk (show Kd.R (Kd.int .i64) 3 _ _ _ _ (rd_L1 x3_2 (rd ((rd_T43 l0_3 x15_1).f2.f2) x24_2)) from ge110_0)
          clear hv110_0 ge110_0
          have HX110_0 := Aside0.mk hx110_0
          clear hcc110 hce110
          have HR110_0 := Aside0.mk hi110_0
          have HC110_0 := Aside0.mk hl110_0
          clear hi110_0 hl110_0
          replace p110 := eq_true p110
          replace q110 := eq_true q110
          go_wp2_with (first | (go_at_call 15; (with_reducible refine (slices_Contains_int_int.calls k2 _ _ (rd_L1 x3_2 (rd ((rd_T43 l0_3 x15_1).f2.f2) x24_2)) x15_1 true _ ?side1 ?side2 A21.out).mono ?_); (case side1 => repeat (first | exact (by repeat with_reducible first | exact HR110_0.out | refine C_alloc ?_ _ | refine C_drewN ?_ _ | refine C_drew ?_) | (with_reducible refine C_alloc ?_ _) | (with_reducible refine C_drewN ?_ _) | (with_reducible refine C_drew ?_))); (case side2 => exact HC110_0.out); rintro e w' ⟨rfl, ⟨nd, rfl⟩⟩))
          go_roundg k2
          case measure => have := HK1.out; have := HK2.out; omega
          case rel => exact ⟨(x3_2), (wrap64 (x24_2 + 1)), (by first | rfl | (simp; done) | (simp [*]; done)), H', ⟨by have := HK1.out; have := HK2.out; omega⟩, ⟨by (with_reducible repeat (first | apply S_alloc | apply S_drewN | apply S_drew)); exact HO_3.out⟩, ⟨by (with_reducible repeat (first | refine blk_drewN ?_ _ | refine blk_drew ?_ | refine blk_alloc ?_ _)); exact BK103.out⟩, ⟨by (with_reducible repeat (first | refine blk_drewN ?_ _ | refine blk_drew ?_ | refine blk_alloc ?_ _)); exact BK108.out⟩, ⟨by repeat (first | (with_reducible first | exact HB.out | apply below_alloc | apply pw_below_drewN | apply below_drew1 | refine below_set ?_ GE103.out | refine below_set ?_ GE108.out) | exact HB.out)⟩⟩
        replace c22 := Bool.eq_false_iff.mpr c22
        subst c22
        have H1 : (if (rd_L1 x3_2 (rd ((rd_T43 l0_3 x15_1).f2.f2) x24_2)).length < 17592186044416 then (check_Ahead.l1 k2 (x3_2.set ((rd ((rd_T43 l0_3 x15_1).f2.f2) x24_2) : Int).toNat ((rd_L1 x3_2 (rd ((rd_T43 l0_3 x15_1).f2.f2) x24_2)) ++ [x15_1])) x15_1 l0_3 (l0_3.length : Int) x15_1 ((rd_T43 l0_3 x15_1).f2.f2) (((rd_T43 l0_3 x15_1).f2.f2).length : Int) (wrap64 (x24_2 + 1))) else (none)) = some r := by rw [if_neg (show ¬ (false = true) by decide)] at H; exact H
        clear H
        have H := H1
        clear H1
        by_cases c24 : (rd_L1 x3_2 (rd ((rd_T43 l0_3 x15_1).f2.f2) x24_2)).length < 17592186044416
        rotate_left
        · rw [if_neg c24] at H
          exact absurd H (by simp)
        rw [if_pos c24] at H
        have LMc24 := Aside0.mk c24
        clear c24
        obtain ⟨y113, hy113⟩ : ∃ y_ : List Int, y_ = ((rd_L1 x3_2 (rd ((rd_T43 l0_3 x15_1).f2.f2) x24_2)) ++ [x15_1]) := ⟨_, rfl⟩
        replace H : (check_Ahead.l1 k2 (x3_2.set ((rd ((rd_T43 l0_3 x15_1).f2.f2) x24_2) : Int).toNat y113) x15_1 l0_3 (l0_3.length : Int) x15_1 ((rd_T43 l0_3 x15_1).f2.f2) (((rd_T43 l0_3 x15_1).f2.f2).length : Int) (wrap64 (x24_2 + 1))) = some r := by first | (rw [hy113]; with_reducible exact H) | (have H2_ := (Option.bind_some _ _).symm.trans H; rw [hy113]; with_reducible exact H2_) | exact H
        have Ny113 := Aside0.mk hy113
        clear hy113
        obtain ⟨y116, hy116⟩ : ∃ y_ : List (List Int), y_ = (x3_2.set ((rd ((rd_T43 l0_3 x15_1).f2.f2) x24_2) : Int).toNat y113) := ⟨_, rfl⟩
        replace H : (check_Ahead.l1 k2 y116 x15_1 l0_3 (l0_3.length : Int) x15_1 ((rd_T43 l0_3 x15_1).f2.f2) (((rd_T43 l0_3 x15_1).f2.f2).length : Int) (wrap64 (x24_2 + 1))) = some r := by first | (rw [hy116]; with_reducible exact H) | (have H2_ := (Option.bind_some _ _).symm.trans H; rw [hy116]; with_reducible exact H2_) | exact H
        have Ny116 := Aside0.mk hy116
        clear hy116
        have H' := Aside0.mk H
        clear H
        have p109 : 0 ≤ (x24_2 : Int) := of_decide_eq_true (by with_reducible assumption)
        have q109 : x24_2 < (((rd_T43 l0_3 x15_1).f2.f2).length : Int) := of_decide_eq_true (by with_reducible assumption)
        obtain ⟨ad109, e109, hx109_0⟩ := Kd.at_int HR107_4.out x24_2 p109 q109
        cases e109
        replace hx109_0 := (HB.out.cell (World.block_lt_of_cell? w _ hx109_0)).trans hx109_0
        replace p109 := eq_true p109
        replace q109 := eq_true q109
        obtain ⟨Ao26, co26, eo26⟩ := Kd.S_slice HO_3.out
        subst eo26
        have p110 : 0 ≤ ((rd ((rd_T43 l0_3 x15_1).f2.f2) x24_2) : Int) := of_decide_eq_true (by with_reducible assumption)
        have q110 : (rd ((rd_T43 l0_3 x15_1).f2.f2) x24_2) < (x3_2.length : Int) := of_decide_eq_true (by with_reducible assumption)
        obtain ⟨ad110, A110_0, c110_0, e110, hx110_0, hl110_0, hi110_0⟩ := at_L1 (S_reads' HO_3.out).2.2 (rd ((rd_T43 l0_3 x15_1).f2.f2) x24_2) p110 q110
        cases e110
        obtain ⟨ce110, hce110, hMe110, hcc110⟩ := S_get HO_3.out [] (rd ((rd_T43 l0_3 x15_1).f2.f2) x24_2) p110 (by first | exact q110 | exact of_decide_eq_true (by with_reducible assumption) | (have e_ := (S_reads' HO_3.out).1; omega))
        obtain ⟨ve110_0, rfl, ge110_0⟩ := hMe110
        have hv110_0 := hcc110 0 _ rfl
        rw [Nat.add_zero, show ((Kd.slice 3 (Kd.int .i64))).sz = 1 from rfl, Nat.mul_one] at hv110_0
        replace hv110_0 := Option.some.inj (hv110_0.symm.trans hx110_0)
        rw [hv110_0] at ge110_0
        have HL110_0 := Aside0.mk (show Kd.R (Kd.int .i64) 3 _ _ _ _ (rd_L1 x3_2 (rd ((rd_T43 l0_3 x15_1).f2.f2) x24_2)) from ge110_0)
        clear hv110_0 ge110_0
        have HX110_0 := Aside0.mk hx110_0
        clear hcc110 hce110
        have HR110_0 := Aside0.mk hi110_0
        have HC110_0 := Aside0.mk hl110_0
        clear hi110_0 hl110_0
        replace p110 := eq_true p110
        replace q110 := eq_true q110
        go_wp2_with (first | (go_at_call 15; (with_reducible refine (slices_Contains_int_int.calls k2 _ _ (rd_L1 x3_2 (rd ((rd_T43 l0_3 x15_1).f2.f2) x24_2)) x15_1 false _ ?side1 ?side2 A21.out).mono ?_); (case side1 => repeat (first | exact (by repeat with_reducible first | exact HR110_0.out | refine C_alloc ?_ _ | refine C_drewN ?_ _ | refine C_drew ?_) | (with_reducible refine C_alloc ?_ _) | (with_reducible refine C_drewN ?_ _) | (with_reducible refine C_drew ?_))); (case side2 => exact HC110_0.out); rintro e w' ⟨rfl, ⟨nd, rfl⟩⟩; (try (rw [drewN_self wr]; generalize hq_ : World.drewN wr _ = wr; have hx110_0 : wr.cell? (ad110.add (rd ((rd_T43 l0_3 x15_1).f2.f2) x24_2).toNat) = some (.slice A110_0 (rd_L1 x3_2 (rd ((rd_T43 l0_3 x15_1).f2.f2) x24_2)).length c110_0) := (by rw [← hq_]; simpa using hx110_0); have n0_ : Aside0 (Kd.R (Kd.int .i64) 3 wr w.heap.size (fun k_ => some k_ ≠ (.slice (some ad110) x3_2.length co26 : Value).ownBlock) (.slice A110_0 (rd_L1 x3_2 (rd ((rd_T43 l0_3 x15_1).f2.f2) x24_2)).length c110_0) (rd_L1 x3_2 (rd ((rd_T43 l0_3 x15_1).f2.f2) x24_2))) := ⟨by rw [← hq_]; exact (by (with_reducible repeat (first | apply R_alloc | apply R_drewN | apply R_drew)); exact R_mono HL110_0.out (fun _ hk => hk.2))⟩; have n1_ : Aside0 (Kd.S (Kd.slice 3 (Kd.int .i64)) 22 wr w.heap.size (fun _ => True) (.slice (some ad110) x3_2.length co26) x3_2) := ⟨by rw [← hq_]; exact (by (with_reducible repeat (first | apply S_alloc | apply S_drewN | apply S_drew)); exact HO_3.out)⟩; have n2_ : Aside0 (wr.heap[gb103]? = some (.cells #[.int .i64 a0_0, .int .i64 a0_1, .slice A0_2 l0_2.length c0_2, .slice (some ad107) l0_3.length c0_3] 25 (0, 0))) := ⟨by rw [← hq_]; exact (by (with_reducible repeat (first | refine blk_drewN ?_ _ | refine blk_drew ?_ | refine blk_alloc ?_ _)); exact BK103.out)⟩; have n3_ : Aside0 (wr.heap[gb108]? = some (.cells #[.slice A107_0 ((rd_T43 l0_3 x15_1).f0).length c107_0, .slice A107_1 ((rd_T43 l0_3 x15_1).f1).length c107_1, .int .i64 ((rd_T43 l0_3 x15_1).f2.f0), .int .i64 ((rd_T43 l0_3 x15_1).f2.f1), .slice (some ad109) ((rd_T43 l0_3 x15_1).f2.f2).length c107_4] 43 (0, 0))) := ⟨by rw [← hq_]; exact (by (with_reducible repeat (first | refine blk_drewN ?_ _ | refine blk_drew ?_ | refine blk_alloc ?_ _)); exact BK108.out)⟩; have n4_ : Aside0 (Below w.heap.size w wr) := ⟨by rw [← hq_]; exact (by repeat with_reducible first | exact HB.out | apply below_alloc | apply pw_below_drewN | apply below_drew1 | refine below_set ?_ GE103.out | refine below_set ?_ GE108.out)⟩; have n5_ : Aside0 (Kd.C (Kd.int .i64) wr A110_0 (rd_L1 x3_2 (rd ((rd_T43 l0_3 x15_1).f2.f2) x24_2)).length (rd_L1 x3_2 (rd ((rd_T43 l0_3 x15_1).f2.f2) x24_2))) := ⟨by rw [← hq_]; exact (by repeat with_reducible first | exact HR110_0.out | refine C_alloc ?_ _ | refine C_drewN ?_ _ | refine C_drew ?_)⟩; clear HL110_0 HO_3 BK103 BK108 HB HR110_0 hq_; have HL110_0 := n0_; have HO_3 := n1_; have BK103 := n2_; have BK108 := n3_; have HB := n4_; have HR110_0 := n5_; clear n0_ n1_ n2_ n3_ n4_ n5_)); have p112 : 0 ≤ ((rd ((rd_T43 l0_3 x15_1).f2.f2) x24_2) : Int) := of_decide_eq_true (by with_reducible assumption); have q112 : (rd ((rd_T43 l0_3 x15_1).f2.f2) x24_2) < (x3_2.length : Int) := of_decide_eq_true (by with_reducible assumption); obtain ⟨ad112, A112_0, c112_0, e112, hx112_0, hl112_0, hi112_0⟩ := at_L1 (S_reads' HO_3.out).2.2 (rd ((rd_T43 l0_3 x15_1).f2.f2) x24_2) p112 q112; obtain rfl : ad110 = ad112 := (by injection e112); obtain ⟨ce112, hce112, hMe112, hcc112⟩ := S_get HO_3.out [] (rd ((rd_T43 l0_3 x15_1).f2.f2) x24_2) p112 (by first | exact q112 | exact of_decide_eq_true (by with_reducible assumption) | (have e_ := (S_reads' HO_3.out).1; omega)); obtain ⟨ve112_0, rfl, ge112_0⟩ := hMe112; have hv112_0 := hcc112 0 _ rfl; rw [Nat.add_zero, show ((Kd.slice 3 (Kd.int .i64))).sz = 1 from rfl, Nat.mul_one] at hv112_0; replace hv112_0 := Option.some.inj (hv112_0.symm.trans hx112_0); rw [hv112_0] at ge112_0; have HL112_0 := Aside0.mk (show Kd.R (Kd.int .i64) 3 _ _ _ _ (rd_L1 x3_2 (rd ((rd_T43 l0_3 x15_1).f2.f2) x24_2)) from ge112_0); clear hv112_0 ge112_0; have HX112_0 := Aside0.mk hx112_0; clear hcc112 hce112; have HR112_0 := Aside0.mk hi112_0; have HC112_0 := Aside0.mk hl112_0; clear hi112_0 hl112_0; replace p112 := eq_true p112; replace q112 := eq_true q112; have ea_ := Option.some.inj (hx110_0.symm.trans hx112_0); injection ea_ with ea_ en_ ec_; subst ea_; subst ec_; clear en_; obtain ⟨go27, co27, eo27, gb27, gl27, cl27, HG27⟩ := Kd.S_form HO_3.out (by have h_ : ((rd ((rd_T43 l0_3 x15_1).f2.f2) x24_2) : Int) < ((x3_2.length : Int) : Int) := of_decide_eq_true (by with_reducible assumption); have h2_ : 0 ≤ ((rd ((rd_T43 l0_3 x15_1).f2.f2) x24_2) : Int) := (of_decide_eq_true (by with_reducible assumption)); omega); (first | cases eo27 | (injection eo27 with ea_ en_ ec_; (first | subst ea_ | (injection ea_ with ea_; subst ea_)); subst ec_; clear en_)); have GB27 := Aside0.mk gb27; have GG27 := Aside0.mk HG27; clear gb27 gl27 HG27; (first | simp only [add_plain] at hx110_0 | skip); (first | simp only [add_plain] at hx112_0 | skip); obtain ⟨oki27, ce27, hcl27, hM27, hcc27, _, _, hH27⟩ := Kd.S_elem HO_3.out [] ((rd ((rd_T43 l0_3 x15_1).f2.f2) x24_2) : Int) (of_decide_eq_true (by with_reducible assumption)) (by have h_ : ((rd ((rd_T43 l0_3 x15_1).f2.f2) x24_2) : Int) < ((x3_2.length : Int) : Int) := of_decide_eq_true (by with_reducible assumption); first | exact h_ | (have e_ := (S_reads' HO_3.out).1; omega) | simpa using h_); obtain ⟨ve27_0, rfl, ge27_0⟩ := hM27; have hv27 := hcc27 0 _ rfl; have hX27 := HX112_0.out; (try simp only [add_plain] at hX27); (try simp only [Nat.add_zero] at hv27); (try rw [show ((Kd.slice 3 (Kd.int .i64))).sz = 1 from rfl, Nat.mul_one] at hv27); replace hv27 := Option.some.inj (hv27.symm.trans hX27); subst hv27; clear hX27 hcc27 hcl27; have UU27 := Aside0.mk (show Kd.R (Kd.int .i64) 3 _ w.heap.size oki27 (.slice A110_0 (rd_L1 x3_2 (rd ((rd_T43 l0_3 x15_1).f2.f2) x24_2)).length c110_0) (rd_L1 x3_2 (rd ((rd_T43 l0_3 x15_1).f2.f2) x24_2)) from ge27_0); have HH27 := Aside0.mk hH27; have HN27 := Aside0.mk (S_reads' HO_3.out).1; clear hH27 ge27_0) | ((with_reducible refine gate_builtin (b := .append) (xs := #[.tmp 50, .tmp 52]) rfl ?_); (try (refine gate_guard (by rfl) ?_; dsimp only)); at_builtin; refine Kd.R_append (Kd.int .i64) (w0 := w) w.heap.size rfl (.tmp 50) (.tmp 52) 22 3 (.int .i64 0) 8 rfl Try.underlying22 info3 rfl (by decide) (by omega) (.slice A110_0 (rd_L1 x3_2 (rd ((rd_T43 l0_3 x15_1).f2.f2) x24_2)).length c110_0) (rd_L1 x3_2 (rd ((rd_T43 l0_3 x15_1).f2.f2) x24_2)) x15_1 [.int .i64 x15_1] (fun k_ => oki27 k_ ∨ ((fun _ => True)) k_ ∧ wr.heap.size ≤ k_) (fun _ => False) rfl rfl ?aP (fun _ hk => hk.elim) ?aF ?aO ?aB ?aS ?aL ?_; (case aP => exact rfl); (case aB => exact (by repeat with_reducible first | exact HB.out | apply below_alloc | apply pw_below_drewN | apply below_drew1 | refine below_set ?_ GE103.out | refine below_set ?_ GE108.out)); (case aF => exact (fun k_ hk => .inr ⟨trivial, hk⟩)); (case aO => exact (by (with_reducible repeat (first | apply R_alloc | apply R_drewN | apply R_drew)); exact R_mono UU27.out (fun _ hk => .inl hk))); (case aS => exact (below_size (by repeat with_reducible first | exact HB.out | apply below_alloc | apply pw_below_drewN | apply below_drew1 | refine below_set ?_ GE103.out | refine below_set ?_ GE108.out))); (case aL => have := LMc24.out; omega); intro v114 w28 ho hb hg hat; rw [← Ny113.out] at ho; have n0_ := Aside0.mk (blk_grown (g := gb103) (o := .cells #[.int .i64 a0_0, .int .i64 a0_1, .slice A0_2 l0_2.length c0_2, .slice (some ad107) l0_3.length c0_3] 25 (0, 0)) (by (with_reducible repeat (first | refine blk_drewN ?_ _ | refine blk_drew ?_ | refine blk_alloc ?_ _)); exact BK103.out) hg (Kd.R_ne HL112_0.out BK103.out (by decide))); have n1_ := Aside0.mk (blk_grown (g := gb108) (o := .cells #[.slice A107_0 ((rd_T43 l0_3 x15_1).f0).length c107_0, .slice A107_1 ((rd_T43 l0_3 x15_1).f1).length c107_1, .int .i64 ((rd_T43 l0_3 x15_1).f2.f0), .int .i64 ((rd_T43 l0_3 x15_1).f2.f1), .slice (some ad109) ((rd_T43 l0_3 x15_1).f2.f2).length c107_4] 43 (0, 0)) (by (with_reducible repeat (first | refine blk_drewN ?_ _ | refine blk_drew ?_ | refine blk_alloc ?_ _)); exact BK108.out) hg (Kd.R_ne HL112_0.out BK108.out (by decide))); have n2_ := Aside0.mk (hb); have n3_ := Aside0.mk (Kd.H_grown (Kd.H_widen (by repeat (first | exact HH27.out | refine Kd.H_alloc ?_ _ | refine Kd.H_drewN ?_ _ | refine Kd.H_drew ?_))) hg (fun k_ e_ => .inl (UU27.out.1 k_ e_))); have n4_ := Aside0.mk (ho); clear BK103; clear BK108; clear HB; clear HH27; clear HO_3; clear UU27; clear HL110_0; clear HL112_0; have BK103 := n0_; have BK108 := n1_; have HB := n2_; have HH27 := n3_; have HO115 := n4_; clear n0_ n1_ n2_ n3_ n4_; clear ho hb hg hat; have p25 : 0 ≤ ((rd ((rd_T43 l0_3 x15_1).f2.f2) x24_2) : Int) := of_decide_eq_true (by with_reducible assumption); have q25 : ((rd ((rd_T43 l0_3 x15_1).f2.f2) x24_2) : Int) < ((x3_2.length : Int) : Int) := of_decide_eq_true (by with_reducible assumption); replace p25 := eq_true p25; replace q25 := eq_true q25; obtain ⟨Ao31, co31, eo31⟩ := Kd.R_slice HO115.out; subst eo31; obtain ⟨_, _, hraw29, _, _, hcc29, _⟩ := Kd.H_raw HH27.out (of_decide_eq_true (by with_reducible assumption)) (by have h_ : ((rd ((rd_T43 l0_3 x15_1).f2.f2) x24_2) : Int) < ((x3_2.length : Int) : Int) := of_decide_eq_true (by with_reducible assumption); first | exact h_ | (have e_ := (HN27.out); omega) | simpa using h_); obtain ⟨_, hfr29⟩ := Kd.H_at HH27.out (of_decide_eq_true (by with_reducible assumption)) (by have h_ : ((rd ((rd_T43 l0_3 x15_1).f2.f2) x24_2) : Int) < ((x3_2.length : Int) : Int) := of_decide_eq_true (by with_reducible assumption); first | exact h_ | (have e_ := (HN27.out); omega) | simpa using h_); have hx29_0 := hcc29 0 _ rfl; have hf29_0 := hfr29 0; (try simp only [Nat.add_zero] at hx29_0 hf29_0); (try rw [show ((Kd.slice 3 (Kd.int .i64))).sz = 1 from rfl, Nat.mul_one] at hx29_0); (try rw [show ((Kd.slice 3 (Kd.int .i64))).sz = 1 from rfl, Nat.mul_one] at hf29_0); have HP29 := Kd.S_seg0 HH27.out (of_decide_eq_true (by with_reducible assumption)) (by have h_ : ((rd ((rd_T43 l0_3 x15_1).f2.f2) x24_2) : Int) < ((x3_2.length : Int) : Int) := of_decide_eq_true (by with_reducible assumption); first | exact h_ | (have e_ := (HN27.out); omega) | simpa using h_) (seg := [.slice Ao31 y113.length co31]) (j := 0) (show 1 ≤ 1 from by decide) (x' := y113) (Kd.M_row HO115.out) (fun _ hk => hk); (try simp only [show ((Kd.slice 3 (Kd.int .i64))).sz = 1 from rfl, Nat.mul_one, Nat.add_zero] at HP29); clear hcc29 hfr29) | ((with_reducible refine gate_store (t := 22) (p := 54) rfl ?_); refine store_event (t := 22) (p := 54) (v := ?vo_w30) (w1 := (w28.setCell ⟨go27, ((rd ((rd_T43 l0_3 x15_1).f2.f2) x24_2) : Int).toNat, none⟩ (.slice Ao31 y113.length co31))) ?hg ?ho ?hn ?hr ?_; (case ho => rfl); (case hg => rfl); (case hn => rfl); (case hr => first | (go_simp; done) | (go_simp; rfl)); intro w30 hw; have hg : w28.grownBy w30 (some go27) := (by rw [hw]; exact HP29.2); have hp_ : Kd.S (Kd.slice 3 (Kd.int .i64)) 22 w30 w.heap.size (fun _ => True) (.slice (some ⟨go27, 0, none⟩) x3_2.length co26) y116 := (by rw [hw, Ny116.out]; exact HP29.1); clear HP29; have n0_ := Aside0.mk (blk_grown (g := gb103) (o := .cells #[.int .i64 a0_0, .int .i64 a0_1, .slice A0_2 l0_2.length c0_2, .slice (some ad107) l0_3.length c0_3] 25 (0, 0)) (by (with_reducible repeat (first | refine blk_drewN ?_ _ | refine blk_drew ?_ | refine blk_alloc ?_ _)); exact BK103.out) hg (Kd.R_ne hraw29 BK103.out (by decide))); have n1_ := Aside0.mk (blk_grown (g := gb108) (o := .cells #[.slice A107_0 ((rd_T43 l0_3 x15_1).f0).length c107_0, .slice A107_1 ((rd_T43 l0_3 x15_1).f1).length c107_1, .int .i64 ((rd_T43 l0_3 x15_1).f2.f0), .int .i64 ((rd_T43 l0_3 x15_1).f2.f1), .slice (some ad109) ((rd_T43 l0_3 x15_1).f2.f2).length c107_4] 43 (0, 0)) (by (with_reducible repeat (first | refine blk_drewN ?_ _ | refine blk_drew ?_ | refine blk_alloc ?_ _)); exact BK108.out) hg (Kd.R_ne hraw29 BK108.out (by decide))); have n2_ := Aside0.mk ((by rw [hw]; exact below_set HB.out GB27.out : Below w.heap.size w w30)); have n3_ := Aside0.mk (hp_); clear BK103; clear BK108; clear HB; clear HO115; clear HH27; have BK103 := n0_; have BK108 := n1_; have HB := n2_; have HO_3 := n3_; clear n0_ n1_ n2_ n3_; clear hg hw hp_ hraw29))
        go_roundg k2
        case measure => have := HK1.out; have := HK2.out; omega
        case rel => exact ⟨(y116), (wrap64 (x24_2 + 1)), (by first | rfl | (simp; done) | (simp [*]; done)), H', ⟨by have := HK1.out; have := HK2.out; omega⟩, ⟨by (with_reducible repeat (first | apply S_alloc | apply S_drewN | apply S_drew)); exact HO_3.out⟩, ⟨by (with_reducible repeat (first | refine blk_drewN ?_ _ | refine blk_drew ?_ | refine blk_alloc ?_ _)); exact BK103.out⟩, ⟨by (with_reducible repeat (first | refine blk_drewN ?_ _ | refine blk_drew ?_ | refine blk_alloc ?_ _)); exact BK108.out⟩, ⟨by repeat (first | (with_reducible first | exact HB.out | apply below_alloc | apply pw_below_drewN | apply below_drew1 | refine below_set ?_ GE103.out | refine below_set ?_ GE108.out) | exact HB.out)⟩⟩
      rw [if_neg c19] at H
      have c19b0 : decide ((rd ((rd_T43 l0_3 x15_1).f2.f2) x24_2) < (x3_2.length : Int)) = false := decide_eq_false c19
      clear c19
      have H' := Aside0.mk H
      clear H
      have p109 : 0 ≤ (x24_2 : Int) := of_decide_eq_true (by with_reducible assumption)
      have q109 : x24_2 < (((rd_T43 l0_3 x15_1).f2.f2).length : Int) := of_decide_eq_true (by with_reducible assumption)
      obtain ⟨ad109, e109, hx109_0⟩ := Kd.at_int HR107_4.out x24_2 p109 q109
      cases e109
      replace hx109_0 := (HB.out.cell (World.block_lt_of_cell? w _ hx109_0)).trans hx109_0
      replace p109 := eq_true p109
      replace q109 := eq_true q109
      obtain ⟨Ao32, co32, eo32⟩ := Kd.S_slice HO_3.out
      subst eo32
      go_wp2
      go_roundg k2
      case measure => have := HK1.out; have := HK2.out; omega
      case rel => exact ⟨(x3_2), (wrap64 (x24_2 + 1)), (by first | rfl | (simp; done) | (simp [*]; done)), H', ⟨by have := HK1.out; have := HK2.out; omega⟩, ⟨by (with_reducible repeat (first | apply S_alloc | apply S_drewN | apply S_drew)); exact HO_3.out⟩, ⟨by (with_reducible repeat (first | refine blk_drewN ?_ _ | refine blk_drew ?_ | refine blk_alloc ?_ _)); exact BK103.out⟩, ⟨by (with_reducible repeat (first | refine blk_drewN ?_ _ | refine blk_drew ?_ | refine blk_alloc ?_ _)); exact BK108.out⟩, ⟨by repeat (first | (with_reducible first | exact HB.out | apply below_alloc | apply pw_below_drewN | apply below_drew1 | refine below_set ?_ GE103.out | refine below_set ?_ GE108.out) | exact HB.out)⟩⟩
    rw [if_neg c18] at H
    have c18b0 : decide (0 ≤ (rd ((rd_T43 l0_3 x15_1).f2.f2) x24_2)) = false := decide_eq_false c18
    clear c18
    have H' := Aside0.mk H
    clear H
    have p109 : 0 ≤ (x24_2 : Int) := of_decide_eq_true (by with_reducible assumption)
    have q109 : x24_2 < (((rd_T43 l0_3 x15_1).f2.f2).length : Int) := of_decide_eq_true (by with_reducible assumption)
    obtain ⟨ad109, e109, hx109_0⟩ := Kd.at_int HR107_4.out x24_2 p109 q109
    cases e109
    replace hx109_0 := (HB.out.cell (World.block_lt_of_cell? w _ hx109_0)).trans hx109_0
    replace p109 := eq_true p109
    replace q109 := eq_true q109
    go_wp2
    go_roundg k2
    case measure => have := HK1.out; have := HK2.out; omega
    case rel => exact ⟨(x3_2), (wrap64 (x24_2 + 1)), (by first | rfl | (simp; done) | (simp [*]; done)), H', ⟨by have := HK1.out; have := HK2.out; omega⟩, ⟨by (with_reducible repeat (first | apply S_alloc | apply S_drewN | apply S_drew)); exact HO_3.out⟩, ⟨by (with_reducible repeat (first | refine blk_drewN ?_ _ | refine blk_drew ?_ | refine blk_alloc ?_ _)); exact BK103.out⟩, ⟨by (with_reducible repeat (first | refine blk_drewN ?_ _ | refine blk_drew ?_ | refine blk_alloc ?_ _)); exact BK108.out⟩, ⟨by repeat (first | (with_reducible first | exact HB.out | apply below_alloc | apply pw_below_drewN | apply below_drew1 | refine below_set ?_ GE103.out | refine below_set ?_ GE108.out) | exact HB.out)⟩⟩
  rw [if_neg c15] at H
  have c15b0 : decide (x24_2 < (((rd_T43 l0_3 x15_1).f2.f2).length : Int)) = false := decide_eq_false c15
  clear c15
  have H' := Aside0.mk H
  clear H
  go_wp2
  go_roundg k2
  case measure => have := HK1.out; have := HK2.out; omega
  case rel => exact ⟨(x3_2), (wrap64 (x15_1 + 1)), (by first | rfl | (simp; done) | (simp [*]; done)), H', ⟨by have := HK1.out; have := HK2.out; omega⟩, ⟨by (with_reducible repeat (first | apply S_alloc | apply S_drewN | apply S_drew)); exact HO_3.out⟩, ⟨by (with_reducible repeat (first | refine blk_drewN ?_ _ | refine blk_drew ?_ | refine blk_alloc ?_ _)); exact BK103.out⟩, ⟨by repeat (first | (with_reducible first | exact HB.out | apply below_alloc | apply pw_below_drewN | apply below_drew1 | refine below_set ?_ GE103.out | refine below_set ?_ GE108.out) | exact HB.out)⟩⟩
/-! ### check_small: function 19 -/
def check_small.l0 : Nat → Int → List (S43) → Int → Int → Int → Int → List Int → List (S43) → Option (Bool)
  | 0, _, _, _, _, _, _, _, _ => none
  | k + 1, x3, x7, x8, x9, x118000, x118001, x118002, x118003 => if x9 < x8 then (if 0 ≤ x9 then (if x9 < (x7.length : Int) then (check_small.l0 k (wrap64 (x3 + (wrap64 ((wrap64 ((((rd_T43 x7 x9).f0).length : Int) + (((rd_T43 x7 x9).f1).length : Int))) + 1)))) x7 x8 (wrap64 (x9 + 1)) x118000 x118001 x118002 x118003) else (none)) else (none)) else (if (x118003.length : Int) ≥ 1 then (if (x118003.length : Int) ≤ 64 then (if (x118002.length : Int) ≤ 256 then (some (decide (x3 ≤ 256))) else (some false)) else (some false)) else (some false))
def check_small.f (k : Nat) (a0_0 : Int) (a0_1 : Int) (l0_2 : List Int) (l0_3 : List (S43)) : Option (Bool) := check_small.l0 k 0 l0_3 (l0_3.length : Int) 0 a0_0 a0_1 l0_2 l0_3
theorem check_small.mono_l : ∀ k, (∀ y0 y1 y2 y3 y4 y5 y6 y7, LeO (check_small.l0 k y0 y1 y2 y3 y4 y5 y6 y7) (check_small.l0 (k + 1) y0 y1 y2 y3 y4 y5 y6 y7))
  | 0 => fun _ _ _ _ _ _ _ _ r h => by simp [check_small.l0] at h
  | k + 1 => by
    have ih0 := check_small.mono_l k
    · intro y0 y1 y2 y3 y4 y5 y6 y7
      unfold check_small.l0
      repeat' first
      | (with_reducible exact ih0 _ _ _ _ _ _ _ _)
      | (with_reducible exact LeO.refl _)
      | (with_reducible exact LeO.none _)
      | (with_reducible refine LeO.ite ?_ ?_)
      | (with_reducible refine LeO.bind ?_ (fun _ => ?_))
      | exact ih0 _ _ _ _ _ _ _ _
      | exact LeO.none _
      | refine LeO.ite ?_ ?_
      | refine LeO.bind ?_ (fun _ => ?_)
theorem check_small.mono : ∀ a0 a1 a2 a3 k, LeO (check_small.f k a0 a1 a2 a3) (check_small.f (k + 1) a0 a1 a2 a3) := by
  intro a0 a1 a2 a3 k
  have ih0 := check_small.mono_l k
  unfold check_small.f
  repeat' first
      | (with_reducible exact ih0 _ _ _ _ _ _ _ _)
      | (with_reducible exact LeO.refl _)
      | (with_reducible exact LeO.none _)
      | (with_reducible refine LeO.ite ?_ ?_)
      | (with_reducible refine LeO.bind ?_ (fun _ => ?_))
      | exact ih0 _ _ _ _ _ _ _ _
      | exact LeO.none _
      | refine LeO.ite ?_ ?_
      | refine LeO.bind ?_ (fun _ => ?_)
set_option maxHeartbeats 8000000 in
set_option maxRecDepth 100000 in
theorem check_small.calls (k : Nat) (a0_0 : Int) (a0_1 : Int) (A0_2 : Option Addr) (c0_2 : Nat) (l0_2 : List Int) (A0_3 : Option Addr) (c0_3 : Nat) (l0_3 : List (S43)) (r : Bool) (w : World) (hr0_2 : Kd.C (Kd.int .i64) w A0_2 l0_2.length l0_2) (hc0_2 : l0_2.length ≤ c0_2) (hr0_3 : Kd.C k43 w A0_3 l0_3.length l0_3) (hc0_3 : l0_3.length ≤ c0_3) (h : check_small.f k a0_0 a0_1 l0_2 l0_3 = some r) :
    Calls Try.prog 19 #[.agg #[.int .i64 a0_0, .int .i64 a0_1, .slice A0_2 l0_2.length c0_2, .slice A0_3 l0_3.length c0_3]] w fun e w' => e = .returned (.bool r) ∧ Below w.heap.size w w' := by
  have hu25 := Try.underlying25
  have hu43 := Try.underlying43
  have HR0_2 := Aside0.mk hr0_2
  have HC0_2 := Aside0.mk hc0_2
  clear hr0_2 hc0_2
  have HR0_3 := Aside0.mk hr0_3
  have HC0_3 := Aside0.mk hc0_3
  clear hr0_3 hc0_3
  have HB := Aside0.mk (Below.refl w.heap.size w)
  have H : (check_small.l0 k 0 l0_3 (l0_3.length : Int) 0 a0_0 a0_1 l0_2 l0_3) = some r := h
  clear h
  have H' := Aside0.mk H
  clear H
  go_enter Try.func19, Try.ntmps19
  go_wp2_with (first | ((with_reducible refine gate_dst (N := 1) rfl ?_); (try (refine gate_guard (by rfl) ?_; dsimp only)); refine box_event ?hg (N := 1) ?hd (cs := #[.int .i64 a0_0, .int .i64 a0_1, .slice A0_2 l0_2.length c0_2, .slice A0_3 l0_3.length c0_3]) (t := 25) ?hr ?_; (case hd => rfl); (case hg => rfl); (case hr => first | (go_simp; done) | (go_simp; rfl)); intro gb117 hg w2 hbox hb; have n0_ := Aside0.mk (below_step (by repeat with_reducible first | exact HB.out | apply below_alloc | apply pw_below_drewN | apply below_drew1) hb); have n1_ := Aside0.mk (hbox); have n2_ := Aside0.mk ((by rw [hg]; exact (below_size (by repeat with_reducible first | exact HB.out | apply below_alloc | apply pw_below_drewN | apply below_drew1)) : w.heap.size ≤ gb117)); have n3_ := Aside0.mk ((by rw [hg]; exact (below_size (by repeat with_reducible first | exact HB.out | apply below_alloc | apply pw_below_drewN | apply below_drew1)) : w.heap.size ≤ gb117)); clear HB; have HB := n0_; have BK117 := n1_; have GW117 := n2_; have GE117 := n3_; clear n0_ n1_ n2_ n3_; clear hb hbox hg; have hcz3_0 : w2.cell? ⟨gb117, 0, none⟩ = some (.int .i64 a0_0) := (blk_cell BK117.out 0).trans rfl; have hcz3_1 : w2.cell? ⟨gb117, 1, none⟩ = some (.int .i64 a0_1) := (blk_cell BK117.out 1).trans rfl; have hcz3_2 : w2.cell? ⟨gb117, 2, none⟩ = some (.slice A0_2 l0_2.length c0_2) := (blk_cell BK117.out 2).trans rfl; have hcz3_3 : w2.cell? ⟨gb117, 3, none⟩ = some (.slice A0_3 l0_3.length c0_3) := (blk_cell BK117.out 3).trans rfl; have hfz3_0 := blk_frozen BK117.out 0; have hfz3_1 := blk_frozen BK117.out 1; have hfz3_2 := blk_frozen BK117.out 2; have hfz3_3 := blk_frozen BK117.out 3))
  go_loopg [3, 9] k (fun kq v3 v9 w' => ∃ (x3_1 : Int) (x9_1 : Int), v3 = .int .i64 x3_1 ∧ v9 = .int .i64 x9_1 ∧ Aside0 (check_small.l0 kq x3_1 l0_3 (l0_3.length : Int) x9_1 a0_0 a0_1 l0_2 l0_3 = some r) ∧ Aside0 (kq ≤ k) ∧ Aside0 (w'.heap[gb117]? = some (.cells #[.int .i64 a0_0, .int .i64 a0_1, (.slice A0_2 l0_2.length c0_2), (.slice A0_3 l0_3.length c0_3)] 25 (0, 0))) ∧ Aside0 (Below w.heap.size w w'))
  case atStart => exact ⟨(0), (0), (by first | rfl | (simp; done) | (simp [*]; done)), (by first | rfl | (simp; done) | (simp [*]; done)), H', ⟨Nat.le_refl _⟩, ⟨by (with_reducible repeat (first | refine blk_drewN ?_ _ | refine blk_drew ?_ | refine blk_alloc ?_ _)); exact BK117.out⟩, ⟨by repeat (first | (with_reducible first | exact HB.out | apply below_alloc | apply pw_below_drewN | apply below_drew1 | refine below_set ?_ GE117.out) | exact HB.out)⟩⟩
  clear H'
  try clear c1
  try clear p2
  try clear hcz3_0
  try clear hcz3_1
  try clear hcz3_2
  try clear hcz3_3
  try clear hfz3_0
  try clear hfz3_1
  try clear hfz3_2
  try clear hfz3_3
  obtain ⟨x3_1, x9_1, rfl, rfl, HA, HK1, BK117, HB⟩ := hrel
  rcases gk with _ | k1
  · exact absurd HA.out (by simp [check_small.l0])
  have H := HA.out
  clear HA
  simp only [check_small.l0] at H
  by_cases c4 : x9_1 < (l0_3.length : Int)
  · rw [if_pos c4] at H
    have c4b0 : decide (x9_1 < (l0_3.length : Int)) = true := decide_eq_true c4
    clear c4
    by_cases c5 : 0 ≤ x9_1
    rotate_left
    · rw [if_neg c5] at H
      exact absurd H (by simp)
    rw [if_pos c5] at H
    have c5b0 : decide (0 ≤ x9_1) = true := decide_eq_true c5
    clear c5
    by_cases c6 : x9_1 < (l0_3.length : Int)
    rotate_left
    · rw [if_neg c6] at H
      exact absurd H (by simp)
    rw [if_pos c6] at H
    have c6b0 : decide (x9_1 < (l0_3.length : Int)) = true := decide_eq_true c6
    clear c6
    have H' := Aside0.mk H
    clear H
    have p118 : 0 ≤ (x9_1 : Int) := of_decide_eq_true (by with_reducible assumption)
    have q118 : x9_1 < (l0_3.length : Int) := of_decide_eq_true (by with_reducible assumption)
    obtain ⟨ad118, A118_0, c118_0, A118_1, c118_1, A118_4, c118_4, e118, hx118_0, hx118_1, hx118_2, hx118_3, hx118_4, hl118_0, hi118_0, hl118_1, hi118_1, hl118_4, hi118_4⟩ := at_T43 HR0_3.out x9_1 p118 q118
    cases e118
    replace hx118_0 := (HB.out.cell (World.block_lt_of_cell? w _ hx118_0)).trans hx118_0
    replace hx118_1 := (HB.out.cell (World.block_lt_of_cell? w _ hx118_1)).trans hx118_1
    replace hx118_2 := (HB.out.cell (World.block_lt_of_cell? w _ hx118_2)).trans hx118_2
    replace hx118_3 := (HB.out.cell (World.block_lt_of_cell? w _ hx118_3)).trans hx118_3
    replace hx118_4 := (HB.out.cell (World.block_lt_of_cell? w _ hx118_4)).trans hx118_4
    have HR118_0 := Aside0.mk hi118_0
    have HC118_0 := Aside0.mk hl118_0
    clear hi118_0 hl118_0
    have HR118_1 := Aside0.mk hi118_1
    have HC118_1 := Aside0.mk hl118_1
    clear hi118_1 hl118_1
    have HR118_4 := Aside0.mk hi118_4
    have HC118_4 := Aside0.mk hl118_4
    clear hi118_4 hl118_4
    replace p118 := eq_true p118
    replace q118 := eq_true q118
    go_wp2_with (first | ((with_reducible refine gate_dst (N := 5) rfl ?_); (try (refine gate_guard (by rfl) ?_; dsimp only)); refine box_event ?hg (N := 5) ?hd (cs := #[.slice none 0 0, .slice none 0 0, .int .i64 0, .int .i64 0, .slice none 0 0]) (t := 43) ?hr ?_; (case hd => rfl); (case hg => rfl); (case hr => first | (go_simp; done) | (go_simp; rfl)); intro gb119 hg w7 hbox hb; have n0_ := Aside0.mk (blk_below (g := gb117) (o := .cells #[.int .i64 a0_0, .int .i64 a0_1, .slice A0_2 l0_2.length c0_2, .slice (some ad118) l0_3.length c0_3] 25 (0, 0)) (by (with_reducible repeat (first | refine blk_drewN ?_ _ | refine blk_drew ?_ | refine blk_alloc ?_ _)); exact BK117.out) hb); have n1_ := Aside0.mk (below_step (by repeat with_reducible first | exact HB.out | apply below_alloc | apply pw_below_drewN | apply below_drew1 | refine below_set ?_ GE117.out) hb); have n2_ := Aside0.mk (hbox); have n3_ := Aside0.mk ((by rw [hg]; exact (below_size (by repeat with_reducible first | exact HB.out | apply below_alloc | apply pw_below_drewN | apply below_drew1 | refine below_set ?_ GE117.out)) : w.heap.size ≤ gb119)); have n4_ := Aside0.mk ((by rw [hg]; exact (below_size (by repeat with_reducible first | exact HB.out | apply below_alloc | apply pw_below_drewN | apply below_drew1 | refine below_set ?_ GE117.out)) : w.heap.size ≤ gb119)); have n5_ := Aside0.mk ((by rw [hg]; exact Nat.ne_of_lt (blk_lt (g := gb117) (o := .cells #[.int .i64 a0_0, .int .i64 a0_1, .slice A0_2 l0_2.length c0_2, .slice (some ad118) l0_3.length c0_3] 25 (0, 0)) (by (with_reducible repeat (first | refine blk_drewN ?_ _ | refine blk_drew ?_ | refine blk_alloc ?_ _)); exact BK117.out)) : gb117 ≠ gb119)); have n6_ := Aside0.mk ((by rw [hg]; exact Nat.ne_of_gt (blk_lt (g := gb117) (o := .cells #[.int .i64 a0_0, .int .i64 a0_1, .slice A0_2 l0_2.length c0_2, .slice (some ad118) l0_3.length c0_3] 25 (0, 0)) (by (with_reducible repeat (first | refine blk_drewN ?_ _ | refine blk_drew ?_ | refine blk_alloc ?_ _)); exact BK117.out)) : gb119 ≠ gb117)); clear BK117; clear HB; have BK117 := n0_; have HB := n1_; have BK119 := n2_; have GW119 := n3_; have GE119 := n4_; have NB117_119 := n5_; have NB119_117 := n6_; clear n0_ n1_ n2_ n3_ n4_ n5_ n6_; clear hb hbox hg; have hnb8 := NB119_117.out; have hnc8 := NB117_119.out; have hcz9_0 : w7.cell? ⟨gb119, 0, none⟩ = some (.slice none 0 0) := (blk_cell BK119.out 0).trans rfl; have hcz9_1 : w7.cell? ⟨gb119, 1, none⟩ = some (.slice none 0 0) := (blk_cell BK119.out 1).trans rfl; have hcz9_2 : w7.cell? ⟨gb119, 2, none⟩ = some (.int .i64 0) := (blk_cell BK119.out 2).trans rfl; have hcz9_3 : w7.cell? ⟨gb119, 3, none⟩ = some (.int .i64 0) := (blk_cell BK119.out 3).trans rfl; have hcz9_4 : w7.cell? ⟨gb119, 4, none⟩ = some (.slice none 0 0) := (blk_cell BK119.out 4).trans rfl; have hfz9_0 := blk_frozen BK119.out 0; have hfz9_1 := blk_frozen BK119.out 1; have hfz9_2 := blk_frozen BK119.out 2; have hfz9_3 := blk_frozen BK119.out 3; have hfz9_4 := blk_frozen BK119.out 4))
    go_roundg k1
    case measure => have := HK1.out; omega
    case rel => exact ⟨(wrap64 (x3_1 + (wrap64 ((wrap64 ((((rd_T43 l0_3 x9_1).f0).length : Int) + (((rd_T43 l0_3 x9_1).f1).length : Int))) + 1)))), (wrap64 (x9_1 + 1)), (by first | rfl | (simp; done) | (simp [*]; done)), (by first | rfl | (simp; done) | (simp [*]; done)), H', ⟨by have := HK1.out; omega⟩, ⟨by (with_reducible repeat (first | refine blk_drewN ?_ _ | refine blk_drew ?_ | refine blk_alloc ?_ _)); refine blk_far ?_ NB117_119.out _; (with_reducible repeat (first | refine blk_drewN ?_ _ | refine blk_drew ?_ | refine blk_alloc ?_ _)); refine blk_far ?_ NB117_119.out _; (with_reducible repeat (first | refine blk_drewN ?_ _ | refine blk_drew ?_ | refine blk_alloc ?_ _)); refine blk_far ?_ NB117_119.out _; (with_reducible repeat (first | refine blk_drewN ?_ _ | refine blk_drew ?_ | refine blk_alloc ?_ _)); refine blk_far ?_ NB117_119.out _; (with_reducible repeat (first | refine blk_drewN ?_ _ | refine blk_drew ?_ | refine blk_alloc ?_ _)); refine blk_far ?_ NB117_119.out _; (with_reducible repeat (first | refine blk_drewN ?_ _ | refine blk_drew ?_ | refine blk_alloc ?_ _)); exact BK117.out⟩, ⟨by repeat (first | (with_reducible first | exact HB.out | apply below_alloc | apply pw_below_drewN | apply below_drew1 | refine below_set ?_ GE117.out | refine below_set ?_ GE119.out) | exact HB.out)⟩⟩
  rw [if_neg c4] at H
  have c4b0 : decide (x9_1 < (l0_3.length : Int)) = false := decide_eq_false c4
  clear c4
  by_cases c10 : (l0_3.length : Int) ≥ 1
  · rw [if_pos c10] at H
    have c10b0 : decide (1 ≤ (l0_3.length : Int)) = true := decide_eq_true c10
    have c10b1 : decide (1 ≤ l0_3.length) = true := decide_eq_true (by omega)
    clear c10
    by_cases c11 : (l0_3.length : Int) ≤ 64
    · rw [if_pos c11] at H
      have c11b0 : decide ((l0_3.length : Int) ≤ 64) = true := decide_eq_true c11
      have c11b1 : decide (l0_3.length ≤ 64) = true := decide_eq_true (by omega)
      clear c11
      by_cases c12 : (l0_2.length : Int) ≤ 256
      · rw [if_pos c12] at H
        have c12b0 : decide ((l0_2.length : Int) ≤ 256) = true := decide_eq_true c12
        have c12b1 : decide (l0_2.length ≤ 256) = true := decide_eq_true (by omega)
        clear c12
        obtain rfl := Option.some.inj H
        have hcz13_0 : wr.cell? ⟨gb117, 0, none⟩ = some (.int .i64 a0_0) := (blk_cell BK117.out 0).trans rfl
        have hcz13_1 : wr.cell? ⟨gb117, 1, none⟩ = some (.int .i64 a0_1) := (blk_cell BK117.out 1).trans rfl
        have hcz13_2 : wr.cell? ⟨gb117, 2, none⟩ = some (.slice A0_2 l0_2.length c0_2) := (blk_cell BK117.out 2).trans rfl
        have hcz13_3 : wr.cell? ⟨gb117, 3, none⟩ = some (.slice A0_3 l0_3.length c0_3) := (blk_cell BK117.out 3).trans rfl
        have hfz13_0 := blk_frozen BK117.out 0
        have hfz13_1 := blk_frozen BK117.out 1
        have hfz13_2 := blk_frozen BK117.out 2
        have hfz13_3 := blk_frozen BK117.out 3
        go_wp2
        go_ret
        exact ⟨by first | rfl | (simp [errW_none, errW_some] <;> rfl) | (simp [*, errW_none, errW_some] <;> rfl), by repeat (first | (with_reducible first | exact HB.out | apply below_alloc | apply pw_below_drewN | apply below_drew1 | refine below_set ?_ GE117.out) | exact HB.out)⟩
      rw [if_neg c12] at H
      have c12b0 : decide ((l0_2.length : Int) ≤ 256) = false := decide_eq_false c12
      have c12b1 : decide (l0_2.length ≤ 256) = false := decide_eq_false (by omega)
      clear c12
      obtain rfl := Option.some.inj H
      have hcz14_0 : wr.cell? ⟨gb117, 0, none⟩ = some (.int .i64 a0_0) := (blk_cell BK117.out 0).trans rfl
      have hcz14_1 : wr.cell? ⟨gb117, 1, none⟩ = some (.int .i64 a0_1) := (blk_cell BK117.out 1).trans rfl
      have hcz14_2 : wr.cell? ⟨gb117, 2, none⟩ = some (.slice A0_2 l0_2.length c0_2) := (blk_cell BK117.out 2).trans rfl
      have hcz14_3 : wr.cell? ⟨gb117, 3, none⟩ = some (.slice A0_3 l0_3.length c0_3) := (blk_cell BK117.out 3).trans rfl
      have hfz14_0 := blk_frozen BK117.out 0
      have hfz14_1 := blk_frozen BK117.out 1
      have hfz14_2 := blk_frozen BK117.out 2
      have hfz14_3 := blk_frozen BK117.out 3
      go_wp2
      go_ret
      exact ⟨by first | rfl | (simp [errW_none, errW_some] <;> rfl) | (simp [*, errW_none, errW_some] <;> rfl), by repeat (first | (with_reducible first | exact HB.out | apply below_alloc | apply pw_below_drewN | apply below_drew1 | refine below_set ?_ GE117.out) | exact HB.out)⟩
    rw [if_neg c11] at H
    have c11b0 : decide ((l0_3.length : Int) ≤ 64) = false := decide_eq_false c11
    have c11b1 : decide (l0_3.length ≤ 64) = false := decide_eq_false (by omega)
    clear c11
    obtain rfl := Option.some.inj H
    have hcz15_0 : wr.cell? ⟨gb117, 0, none⟩ = some (.int .i64 a0_0) := (blk_cell BK117.out 0).trans rfl
    have hcz15_1 : wr.cell? ⟨gb117, 1, none⟩ = some (.int .i64 a0_1) := (blk_cell BK117.out 1).trans rfl
    have hcz15_2 : wr.cell? ⟨gb117, 2, none⟩ = some (.slice A0_2 l0_2.length c0_2) := (blk_cell BK117.out 2).trans rfl
    have hcz15_3 : wr.cell? ⟨gb117, 3, none⟩ = some (.slice A0_3 l0_3.length c0_3) := (blk_cell BK117.out 3).trans rfl
    have hfz15_0 := blk_frozen BK117.out 0
    have hfz15_1 := blk_frozen BK117.out 1
    have hfz15_2 := blk_frozen BK117.out 2
    have hfz15_3 := blk_frozen BK117.out 3
    go_wp2
    go_ret
    exact ⟨by first | rfl | (simp [errW_none, errW_some] <;> rfl) | (simp [*, errW_none, errW_some] <;> rfl), by repeat (first | (with_reducible first | exact HB.out | apply below_alloc | apply pw_below_drewN | apply below_drew1 | refine below_set ?_ GE117.out) | exact HB.out)⟩
  rw [if_neg c10] at H
  have c10b0 : decide (1 ≤ (l0_3.length : Int)) = false := decide_eq_false c10
  have c10b1 : decide (1 ≤ l0_3.length) = false := decide_eq_false (by omega)
  clear c10
  obtain rfl := Option.some.inj H
  have hcz16_0 : wr.cell? ⟨gb117, 0, none⟩ = some (.int .i64 a0_0) := (blk_cell BK117.out 0).trans rfl
  have hcz16_1 : wr.cell? ⟨gb117, 1, none⟩ = some (.int .i64 a0_1) := (blk_cell BK117.out 1).trans rfl
  have hcz16_2 : wr.cell? ⟨gb117, 2, none⟩ = some (.slice A0_2 l0_2.length c0_2) := (blk_cell BK117.out 2).trans rfl
  have hcz16_3 : wr.cell? ⟨gb117, 3, none⟩ = some (.slice A0_3 l0_3.length c0_3) := (blk_cell BK117.out 3).trans rfl
  have hfz16_0 := blk_frozen BK117.out 0
  have hfz16_1 := blk_frozen BK117.out 1
  have hfz16_2 := blk_frozen BK117.out 2
  have hfz16_3 := blk_frozen BK117.out 3
  go_wp2
  go_ret
  exact ⟨by first | rfl | (simp [errW_none, errW_some] <;> rfl) | (simp [*, errW_none, errW_some] <;> rfl), by repeat (first | (with_reducible first | exact HB.out | apply below_alloc | apply pw_below_drewN | apply below_drew1 | refine below_set ?_ GE117.out) | exact HB.out)⟩

/-! ### check_value: function 27 -/
def check_value.f (a0 : Int) : Option (Bool) := if a0 = 1 then (some true) else (some (a0 == 2))
set_option maxHeartbeats 8000000 in
set_option maxRecDepth 100000 in
theorem check_value.calls (a0 : Int) (r : Bool) (w : World) (h : check_value.f a0 = some r) :
    Calls Try.prog 27 #[.int .i64 a0] w fun e w' => e = .returned (.bool r) ∧ Drawn0 w w' := by
  have H : (if a0 = 1 then (some true) else (some (a0 == 2))) = some r := h
  clear h
  by_cases c2 : a0 = 1
  · rw [if_pos c2] at H
    have c2b0 : (a0 == 1) = true := beq_iff_eq.mpr c2
    have c2b1 : (a0 != 1) = false := bne_eq_false_iff_eq.mpr c2
    clear c2
    obtain rfl := Option.some.inj H
    go_enter Try.func27, Try.ntmps27
    go_wp2
    go_ret
    exact ⟨by first | rfl | (simp; done) | (simp [*]; done), by repeat (first | exact Drawn0.refl _ | apply Drawn0.step)⟩
  rw [if_neg c2] at H
  have c2b0 : (a0 == 1) = false := beq_eq_false_iff_ne.mpr c2
  have c2b1 : (a0 != 1) = true := bne_iff_ne.mpr c2
  obtain rfl := Option.some.inj H
  go_enter Try.func27, Try.ntmps27
  go_wp2
  go_ret
  exact ⟨by first | rfl | (simp; done) | (simp [*]; done), by repeat (first | exact Drawn0.refl _ | apply Drawn0.step)⟩

-- NOT PRINTED: function 34 (slices_IndexFunc_int_int)

-- NOT PRINTED: function 28 (slices_ContainsFunc_int_int)

-- NOT PRINTED: function 20 (check_typed)

end Go.Proofs.Ytocjpkjijjdnbaa.PCheckStays
