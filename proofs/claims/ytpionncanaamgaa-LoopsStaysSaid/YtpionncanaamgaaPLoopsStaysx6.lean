-- Laid by a program of this session (wip/pp/patch.py over the kit's print).
-- mended yes
import Derived.Test.YtpionncanaamgaaUp
import Derived.Test.YtpionncanaamgaaPLoopsStaysx0
import Derived.Test.YtpionncanaamgaaShort
namespace Go.Proofs.Ytpionncanaamgaa.PLoopsStays
open Go.Proofs.Ytpionncanaamgaa.Up Go.Proofs.Ytpionncanaamgaa.Short Go.RowKit Go.Proofs.YtpionncanaamgaaW.PrintWords Go.Proofs.YtpionncanaamgaaW.PrintLast Go.Proofs.YtpionncanaamgaaW.PrintMore Go.Proofs.YtpionncanaamgaaW.PrintWords.Kd
attribute [local go_sem] max2_int min2_int max_two min_two max_three min_three max_four min_four   -- for this text's walks alone
set_option linter.unusedVariables false
set_option linter.unusedSimpArgs false
/-! ### slices_Index_int_int: function 43 -/
def slices_Index_int_int.l0 : Nat → List Int → Int → Int → Int → Option (Int)
  | 0, _, _, _, _ => none
  | k + 1, x0, x1, x7, x8 => if x8 < x7 then (if 0 ≤ x8 then (if x8 < (x0.length : Int) then (if x1 = (rd x0 x8) then (some x8) else (slices_Index_int_int.l0 k x0 x1 x7 (wrap64 (x8 + 1)))) else (none)) else (none)) else (some (-1))
def slices_Index_int_int.f (k : Nat) (l0 : List Int) (a1 : Int) : Option (Int) := slices_Index_int_int.l0 k l0 a1 (l0.length : Int) 0
theorem slices_Index_int_int.mono_l : ∀ k, (∀ y0 y1 y2 y3, LeO (slices_Index_int_int.l0 k y0 y1 y2 y3) (slices_Index_int_int.l0 (k + 1) y0 y1 y2 y3))
  | 0 => fun _ _ _ _ r h => by simp [slices_Index_int_int.l0] at h
  | k + 1 => by
    have ih0 := slices_Index_int_int.mono_l k
    · intro y0 y1 y2 y3
      unfold slices_Index_int_int.l0
      repeat' first
      | (with_reducible exact ih0 _ _ _ _)
      | (with_reducible exact LeO.refl _)
      | (with_reducible exact LeO.none _)
      | (with_reducible refine LeO.ite ?_ ?_)
      | (with_reducible refine LeO.bind ?_ (fun _ => ?_))
      | exact ih0 _ _ _ _
      | exact LeO.none _
      | refine LeO.ite ?_ ?_
      | refine LeO.bind ?_ (fun _ => ?_)
theorem slices_Index_int_int.mono : ∀ a0 a1 k, LeO (slices_Index_int_int.f k a0 a1) (slices_Index_int_int.f (k + 1) a0 a1) := by
  intro a0 a1 k
  have ih0 := slices_Index_int_int.mono_l k
  unfold slices_Index_int_int.f
  repeat' first
      | (with_reducible exact ih0 _ _ _ _)
      | (with_reducible exact LeO.refl _)
      | (with_reducible exact LeO.none _)
      | (with_reducible refine LeO.ite ?_ ?_)
      | (with_reducible refine LeO.bind ?_ (fun _ => ?_))
      | exact ih0 _ _ _ _
      | exact LeO.none _
      | refine LeO.ite ?_ ?_
      | refine LeO.bind ?_ (fun _ => ?_)
set_option maxHeartbeats 8000000 in
set_option maxRecDepth 100000 in
theorem slices_Index_int_int.calls (k : Nat) (A0 : Option Addr) (c0 : Nat) (l0 : List Int) (a1 : Int) (r : Int) (w : World) (hr0 : Kd.C (Kd.int .i64) w A0 l0.length l0) (hc0 : l0.length ≤ c0) (h : slices_Index_int_int.f k l0 a1 = some r) :
    Calls Try.prog 43 #[.slice A0 l0.length c0, .int .i64 a1] w fun e w' => e = .returned (.int .i64 r) ∧ Drawn0 w w' := by
  have HR0 := Aside0.mk hr0
  have HC0 := Aside0.mk hc0
  clear hr0 hc0
  have H : (slices_Index_int_int.l0 k l0 a1 (l0.length : Int) 0) = some r := h
  clear h
  have H' := Aside0.mk H
  clear H
  go_enter Try.func43, Try.ntmps43
  go_wp2
  go_loopg [8] k (fun kq v8 w' => ∃ (x8_1 : Int), v8 = .int .i64 x8_1 ∧ Aside0 (slices_Index_int_int.l0 kq l0 a1 (l0.length : Int) x8_1 = some r) ∧ Aside0 (kq ≤ k) ∧ Drawn0 w w')
  case atStart => exact ⟨(0), (by first | rfl | (simp; done) | (simp [*]; done)), H', ⟨Nat.le_refl _⟩, by repeat (first | exact Drawn0.refl _ | apply Drawn0.step)⟩
  clear H'
  try clear p2
  obtain ⟨x8_1, rfl, HA, HK1, ⟨m1, rfl⟩⟩ := hrel
  rcases gk with _ | k1
  · exact absurd HA.out (by simp [slices_Index_int_int.l0])
  have H := HA.out
  clear HA
  simp only [slices_Index_int_int.l0] at H
  by_cases c3 : x8_1 < (l0.length : Int)
  · rw [if_pos c3] at H
    have c3b0 : decide (x8_1 < (l0.length : Int)) = true := decide_eq_true c3
    clear c3
    by_cases c4 : 0 ≤ x8_1
    rotate_left
    · rw [if_neg c4] at H
      exact absurd H (by simp)
    rw [if_pos c4] at H
    have c4b0 : decide (0 ≤ x8_1) = true := decide_eq_true c4
    clear c4
    by_cases c5 : x8_1 < (l0.length : Int)
    rotate_left
    · rw [if_neg c5] at H
      exact absurd H (by simp)
    rw [if_pos c5] at H
    have c5b0 : decide (x8_1 < (l0.length : Int)) = true := decide_eq_true c5
    clear c5
    by_cases c6 : a1 = (rd l0 x8_1)
    · rw [if_pos c6] at H
      have c6b0 : (a1 == (rd l0 x8_1)) = true := beq_iff_eq.mpr c6
      have c6b1 : (a1 != (rd l0 x8_1)) = false := bne_eq_false_iff_eq.mpr c6
      clear c6
      obtain rfl := Option.some.inj H
      have p167 : 0 ≤ (x8_1 : Int) := of_decide_eq_true (by with_reducible assumption)
      have q167 : x8_1 < (l0.length : Int) := of_decide_eq_true (by with_reducible assumption)
      obtain ⟨ad167, e167, hx167_0⟩ := Kd.at_int HR0.out x8_1 p167 q167
      cases e167
      replace p167 := eq_true p167
      replace q167 := eq_true q167
      go_wp2
      go_ret
      exact ⟨by first | rfl | (simp; done) | (simp [*]; done), by repeat (first | exact Drawn0.refl _ | apply Drawn0.step)⟩
    rw [if_neg c6] at H
    have c6b0 : (a1 == (rd l0 x8_1)) = false := beq_eq_false_iff_ne.mpr c6
    have c6b1 : (a1 != (rd l0 x8_1)) = true := bne_iff_ne.mpr c6
    have H' := Aside0.mk H
    clear H
    have p167 : 0 ≤ (x8_1 : Int) := of_decide_eq_true (by with_reducible assumption)
    have q167 : x8_1 < (l0.length : Int) := of_decide_eq_true (by with_reducible assumption)
    obtain ⟨ad167, e167, hx167_0⟩ := Kd.at_int HR0.out x8_1 p167 q167
    cases e167
    replace p167 := eq_true p167
    replace q167 := eq_true q167
    go_wp2
    go_roundg k1
    case measure => have := HK1.out; omega
    case rel => exact ⟨(wrap64 (x8_1 + 1)), (by first | rfl | (simp; done) | (simp [*]; done)), H', ⟨by have := HK1.out; omega⟩, by repeat (first | exact Drawn0.refl _ | apply Drawn0.step)⟩
  rw [if_neg c3] at H
  have c3b0 : decide (x8_1 < (l0.length : Int)) = false := decide_eq_false c3
  clear c3
  obtain rfl := Option.some.inj H
  go_wp2
  go_ret
  exact ⟨by first | rfl | (simp; done) | (simp [*]; done), by repeat (first | exact Drawn0.refl _ | apply Drawn0.step)⟩
/-! ### slices_Contains_int_int: function 41 -/
def slices_Contains_int_int.f (k : Nat) (l0 : List Int) (a1 : Int) : Option (Bool) := (slices_Index_int_int.f k l0 a1).bind fun t168 => (some (decide (t168 ≥ 0)))
theorem slices_Contains_int_int.mono : ∀ a0 a1 k, LeO (slices_Contains_int_int.f k a0 a1) (slices_Contains_int_int.f (k + 1) a0 a1) := by
  intro a0 a1 k
  unfold slices_Contains_int_int.f
  repeat' first
      | (with_reducible exact slices_Index_int_int.mono _ _ _)
      | (with_reducible exact LeO.refl _)
      | (with_reducible exact LeO.none _)
      | (with_reducible refine LeO.ite ?_ ?_)
      | (with_reducible refine LeO.bind ?_ (fun _ => ?_))
      | exact slices_Index_int_int.mono _ _ _
      | exact LeO.none _
      | refine LeO.ite ?_ ?_
      | refine LeO.bind ?_ (fun _ => ?_)
set_option maxHeartbeats 8000000 in
set_option maxRecDepth 100000 in
theorem slices_Contains_int_int.calls (k : Nat) (A0 : Option Addr) (c0 : Nat) (l0 : List Int) (a1 : Int) (r : Bool) (w : World) (hr0 : Kd.C (Kd.int .i64) w A0 l0.length l0) (hc0 : l0.length ≤ c0) (h : slices_Contains_int_int.f k l0 a1 = some r) :
    Calls Try.prog 41 #[.slice A0 l0.length c0, .int .i64 a1] w fun e w' => e = .returned (.bool r) ∧ Drawn0 w w' := by
  have HR0 := Aside0.mk hr0
  have HC0 := Aside0.mk hc0
  clear hr0 hc0
  have H : ((slices_Index_int_int.f k l0 a1).bind fun t168 => (some (decide (t168 ≥ 0)))) = some r := h
  clear h
  replace H := Option.bind_eq_some_iff.mp H
  obtain ⟨t168, A30, H⟩ := H
  replace H : (some (decide (t168 ≥ 0))) = some r := H
  have A3 := Aside0.mk A30
  clear A30
  obtain rfl := Option.some.inj H
  go_enter Try.func41, Try.ntmps41
  go_wp2_with (first | ((with_reducible refine gate_callee (f := 43) rfl ?_); refine goesL_ (some 7) rfl rfl Try.func43 (by kernel_rfl) rfl #[.slice A0 l0.length c0, .int .i64 a1] rfl (by (try simp only [List.map_toArray, List.map_cons, List.map_nil]); first | done | rfl) ?_; (with_reducible refine (slices_Index_int_int.calls k _ _ l0 a1 t168 _ ?side1 ?side2 A3.out).mono ?_); (case side1 => repeat (first | exact HR0.out | (with_reducible refine C_alloc ?_ _) | (with_reducible refine C_drewN ?_ _) | (with_reducible refine C_drew ?_))); (case side2 => exact HC0.out); rintro e w' ⟨rfl, ⟨nd, rfl⟩⟩; refine ⟨_, rfl, ?_⟩))
  go_ret
  exact ⟨by first | rfl | (simp; done) | (simp [*]; done), by repeat (first | exact Drawn0.refl _ | apply Drawn0.step)⟩
/-! ### graph_Next: function 31 -/
mutual
def graph_Next.l0 : Nat → List (List Int) → List (S52) → Int → Int → Option ((List (List Int)))
  | 0, _, _, _, _ => none
  | k + 1, x3, x13, x14, x15 => if x15 < x14 then (if 0 ≤ x15 then (if x15 < (x13.length : Int) then (graph_Next.l1 k x3 x15 x13 x14 x15 ((rd_T52 x13 x15).f2.f2) (((rd_T52 x13 x15).f2.f2).length : Int) 0) else (none)) else (none)) else (some x3)
def graph_Next.l1 : Nat → List (List Int) → Int → List (S52) → Int → Int → List Int → Int → Int → Option ((List (List Int)))
  | 0, _, _, _, _, _, _, _, _ => none
  | k + 1, x3, x4, x13, x14, x15, x22, x23, x24 => if x24 < x23 then (if 0 ≤ x24 then (if x24 < (x22.length : Int) then (if (rd x22 x24) ≥ 0 then (if (rd x22 x24) < (x3.length : Int) then (if 0 ≤ x4 then (if x4 < (x3.length : Int) then ((slices_Contains_int_int.f k (rd_L1 x3 x4) (rd x22 x24)).bind fun t177 => (if t177 = true then (graph_Next.l1 k x3 x4 x13 x14 x15 x22 x23 (wrap64 (x24 + 1))) else (if (rd_L1 x3 x4).length < 17592186044416 then (graph_Next.l1 k (x3.set (x4 : Int).toNat ((rd_L1 x3 x4) ++ [rd x22 x24])) x4 x13 x14 x15 x22 x23 (wrap64 (x24 + 1))) else (none)))) else (none)) else (none)) else (graph_Next.l1 k x3 x4 x13 x14 x15 x22 x23 (wrap64 (x24 + 1)))) else (graph_Next.l1 k x3 x4 x13 x14 x15 x22 x23 (wrap64 (x24 + 1)))) else (none)) else (none)) else (graph_Next.l0 k x3 x13 x14 (wrap64 (x15 + 1)))
end
def graph_Next.f (k : Nat) (a0_0 : Int) (a0_1 : Int) (l0_2 : List Int) (l0_3 : List (S52)) : Option ((List (List Int))) := if 0 ≤ (l0_3.length : Int) then (if ((l0_3.length : Int) : Int).toNat ≤ 11728124029610 then (graph_Next.l0 k (List.replicate ((l0_3.length : Int) : Int).toNat []) l0_3 (l0_3.length : Int) 0) else (none)) else (none)
theorem graph_Next.mono_l : ∀ k, (∀ y0 y1 y2 y3, LeO (graph_Next.l0 k y0 y1 y2 y3) (graph_Next.l0 (k + 1) y0 y1 y2 y3)) ∧ (∀ y0 y1 y2 y3 y4 y5 y6 y7, LeO (graph_Next.l1 k y0 y1 y2 y3 y4 y5 y6 y7) (graph_Next.l1 (k + 1) y0 y1 y2 y3 y4 y5 y6 y7))
  | 0 => ⟨fun _ _ _ _ r h => by simp [graph_Next.l0] at h, fun _ _ _ _ _ _ _ _ r h => by simp [graph_Next.l1] at h⟩
  | k + 1 => by
    obtain ⟨ih0, ih1⟩ := graph_Next.mono_l k
    refine ⟨?_, ?_⟩
    · intro y0 y1 y2 y3
      unfold graph_Next.l0
      repeat' first
      | (with_reducible exact ih0 _ _ _ _)
      | (with_reducible exact ih1 _ _ _ _ _ _ _ _)
      | (with_reducible exact slices_Contains_int_int.mono _ _ _)
      | (with_reducible exact LeO.refl _)
      | (with_reducible exact LeO.none _)
      | (with_reducible refine LeO.ite ?_ ?_)
      | (with_reducible refine LeO.bind ?_ (fun _ => ?_))
      | exact ih0 _ _ _ _
      | exact ih1 _ _ _ _ _ _ _ _
      | exact slices_Contains_int_int.mono _ _ _
      | exact LeO.none _
      | refine LeO.ite ?_ ?_
      | refine LeO.bind ?_ (fun _ => ?_)
    · intro y0 y1 y2 y3 y4 y5 y6 y7
      unfold graph_Next.l1
      repeat' first
      | (with_reducible exact ih0 _ _ _ _)
      | (with_reducible exact ih1 _ _ _ _ _ _ _ _)
      | (with_reducible exact slices_Contains_int_int.mono _ _ _)
      | (with_reducible exact LeO.refl _)
      | (with_reducible exact LeO.none _)
      | (with_reducible refine LeO.ite ?_ ?_)
      | (with_reducible refine LeO.bind ?_ (fun _ => ?_))
      | exact ih0 _ _ _ _
      | exact ih1 _ _ _ _ _ _ _ _
      | exact slices_Contains_int_int.mono _ _ _
      | exact LeO.none _
      | refine LeO.ite ?_ ?_
      | refine LeO.bind ?_ (fun _ => ?_)
theorem graph_Next.mono : ∀ a0 a1 a2 a3 k, LeO (graph_Next.f k a0 a1 a2 a3) (graph_Next.f (k + 1) a0 a1 a2 a3) := by
  intro a0 a1 a2 a3 k
  obtain ⟨ih0, ih1⟩ := graph_Next.mono_l k
  unfold graph_Next.f
  repeat' first
      | (with_reducible exact ih0 _ _ _ _)
      | (with_reducible exact ih1 _ _ _ _ _ _ _ _)
      | (with_reducible exact slices_Contains_int_int.mono _ _ _)
      | (with_reducible exact LeO.refl _)
      | (with_reducible exact LeO.none _)
      | (with_reducible refine LeO.ite ?_ ?_)
      | (with_reducible refine LeO.bind ?_ (fun _ => ?_))
      | exact ih0 _ _ _ _
      | exact ih1 _ _ _ _ _ _ _ _
      | exact slices_Contains_int_int.mono _ _ _
      | exact LeO.none _
      | refine LeO.ite ?_ ?_
      | refine LeO.bind ?_ (fun _ => ?_)
set_option maxHeartbeats 8000000 in
set_option maxRecDepth 100000 in
theorem graph_Next.calls (k : Nat) (a0_0 : Int) (a0_1 : Int) (A0_2 : Option Addr) (c0_2 : Nat) (l0_2 : List Int) (A0_3 : Option Addr) (c0_3 : Nat) (l0_3 : List (S52)) (r : List (List Int)) (w : World) (hr0_2 : Kd.C (Kd.int .i64) w A0_2 l0_2.length l0_2) (hc0_2 : l0_2.length ≤ c0_2) (hr0_3 : Kd.C k52 w A0_3 l0_3.length l0_3) (hc0_3 : l0_3.length ≤ c0_3) (h : graph_Next.f k a0_0 a0_1 l0_2 l0_3 = some r) :
    Calls Try.prog 31 #[.agg #[.int .i64 a0_0, .int .i64 a0_1, .slice A0_2 l0_2.length c0_2, .slice A0_3 l0_3.length c0_3]] w fun e w' => ∃ v0_ : Value, e = .returned (v0_) ∧ Kd.S (Kd.slice 3 (Kd.int .i64)) 22 w' w.heap.size (fun _ => True) v0_ r ∧ Below w.heap.size w w' := by
  have hu25 := Try.underlying25
  have hu52 := Try.underlying52
  have HR0_2 := Aside0.mk hr0_2
  have HC0_2 := Aside0.mk hc0_2
  clear hr0_2 hc0_2
  have HR0_3 := Aside0.mk hr0_3
  have HC0_3 := Aside0.mk hc0_3
  clear hr0_3 hc0_3
  have HB := Aside0.mk (Below.refl w.heap.size w)
  have H : (if 0 ≤ (l0_3.length : Int) then (if ((l0_3.length : Int) : Int).toNat ≤ 11728124029610 then (graph_Next.l0 k (List.replicate ((l0_3.length : Int) : Int).toNat []) l0_3 (l0_3.length : Int) 0) else (none)) else (none)) = some r := h
  clear h
  by_cases c2 : 0 ≤ (l0_3.length : Int)
  rotate_left
  · rw [if_neg c2] at H
    exact absurd H (by simp)
  rw [if_pos c2] at H
  have c2b0 := eq_true c2
  have c2b1 : decide (0 ≤ (l0_3.length : Int)) = true := decide_eq_true c2
  clear c2
  by_cases c3 : ((l0_3.length : Int) : Int).toNat ≤ 11728124029610
  rotate_left
  · rw [if_neg c3] at H
    exact absurd H (by simp)
  rw [if_pos c3] at H
  have c3b0 := eq_true c3
  have c3b1 : decide (((l0_3.length : Int) : Int).toNat ≤ 11728124029610) = true := decide_eq_true c3
  clear c3
  obtain ⟨y170, hy170⟩ : ∃ y_ : List (List Int), y_ = (List.replicate ((l0_3.length : Int) : Int).toNat []) := ⟨_, rfl⟩
  replace H : (graph_Next.l0 k y170 l0_3 (l0_3.length : Int) 0) = some r := by first | (rw [hy170]; with_reducible exact H) | (have H2_ := (Option.bind_some _ _).symm.trans H; rw [hy170]; with_reducible exact H2_) | exact H
  have Ny170 := Aside0.mk hy170
  clear hy170
  have H' := Aside0.mk H
  clear H
  go_enter Try.func31, Try.ntmps31
  go_wp2_with (first | ((with_reducible refine gate_dst (N := 1) rfl ?_); (try (refine gate_guard (by rfl) ?_; dsimp only)); refine box_event ?hg (N := 1) ?hd (cs := #[.int .i64 a0_0, .int .i64 a0_1, .slice A0_2 l0_2.length c0_2, .slice A0_3 l0_3.length c0_3]) (t := 25) ?hr ?_; (case hd => rfl); (case hg => rfl); (case hr => first | (go_simp; done) | (go_simp; rfl)); intro gb169 hg w4 hbox hb; have n0_ := Aside0.mk (below_step (lu HB.out) hb); have n1_ := Aside0.mk (hbox); have n2_ := Aside0.mk ((by rw [hg]; exact (below_size (lu HB.out)) : w.heap.size ≤ gb169)); have n3_ := Aside0.mk ((by rw [hg]; exact (below_size (lu HB.out)) : w.heap.size ≤ gb169)); clear HB; have HB := n0_; have BK169 := n1_; have GW169 := n2_; have GE169 := n3_; clear n0_ n1_ n2_ n3_; clear hb hbox hg; have hcz5_0 : w4.cell? ⟨gb169, 0, none⟩ = some (.int .i64 a0_0) := (blk_cell BK169.out 0).trans rfl; have hcz5_1 : w4.cell? ⟨gb169, 1, none⟩ = some (.int .i64 a0_1) := (blk_cell BK169.out 1).trans rfl; have hcz5_2 : w4.cell? ⟨gb169, 2, none⟩ = some (.slice A0_2 l0_2.length c0_2) := (blk_cell BK169.out 2).trans rfl; have hcz5_3 : w4.cell? ⟨gb169, 3, none⟩ = some (.slice A0_3 l0_3.length c0_3) := (blk_cell BK169.out 3).trans rfl; have hfz5_0 := blk_frozen BK169.out 0; have hfz5_1 := blk_frozen BK169.out 1; have hfz5_2 := blk_frozen BK169.out 2; have hfz5_3 := blk_frozen BK169.out 3) | ((with_reducible refine gate_dst (N := 11) rfl ?_); (try (refine gate_guard (by rfl) ?_; dsimp only)); refine Kd.S_make (Kd.slice 3 (Kd.int .i64)) _ 22 rfl (N := 11) rfl 28 _ _ rfl (l0_3.length : Int) rfl rfl Try.underlying28 (.slice none 0 0) 24 info22 rfl (by decide) (by omega) [] (ok := fun _ => True) (okp := fun _ => True) ⟨_, rfl, Kd.R_nil _ _ _ _ _⟩ (fun _ hk => hk) trivial (of_decide_eq_true (by with_reducible assumption)) (Nat.le_trans (Nat.mul_le_mul_right _ (of_decide_eq_true (by with_reducible assumption) : (l0_3.length : Int).toNat ≤ 11728124029610)) (by omega)) (Below.refl _ _) (Nat.le_refl _) ?_; intro v171 w6 ho7 hb hg_ hnew_; clear hg_ hnew_; rw [← Ny170.out] at ho7; have n0_ := Aside0.mk (Kd.S_lower ho7 (below_size (lu HB.out))); have n1_ := Aside0.mk (blk_below (bu BK169.out) hb); have n2_ := Aside0.mk (below_step (lu HB.out) hb); clear BK169; clear HB; have HO172 := n0_; have BK169 := n1_; have HB := n2_; clear n0_ n1_ n2_; clear hb ho7; have hcz8_0 : w6.cell? ⟨gb169, 0, none⟩ = some (.int .i64 a0_0) := (blk_cell BK169.out 0).trans rfl; have hcz8_1 : w6.cell? ⟨gb169, 1, none⟩ = some (.int .i64 a0_1) := (blk_cell BK169.out 1).trans rfl; have hcz8_2 : w6.cell? ⟨gb169, 2, none⟩ = some (.slice A0_2 l0_2.length c0_2) := (blk_cell BK169.out 2).trans rfl; have hcz8_3 : w6.cell? ⟨gb169, 3, none⟩ = some (.slice A0_3 l0_3.length c0_3) := (blk_cell BK169.out 3).trans rfl; have hfz8_0 := blk_frozen BK169.out 0; have hfz8_1 := blk_frozen BK169.out 1; have hfz8_2 := blk_frozen BK169.out 2; have hfz8_3 := blk_frozen BK169.out 3))
  go_loopg [15] k (fun kq v15 w' => ∃ (x3_1 : List (List Int)) (x15_1 : Int), v15 = .int .i64 x15_1 ∧ Aside0 (graph_Next.l0 kq x3_1 l0_3 (l0_3.length : Int) x15_1 = some r) ∧ Aside0 (kq ≤ k) ∧ Aside0 (Kd.S (Kd.slice 3 (Kd.int .i64)) 22 w' w.heap.size (fun _ => True) v171 x3_1) ∧ Aside0 (w'.heap[gb169]? = some (.cells #[.int .i64 a0_0, .int .i64 a0_1, (.slice A0_2 l0_2.length c0_2), (.slice A0_3 l0_3.length c0_3)] 25 (0, 0))) ∧ Aside0 (Below w.heap.size w w'))
  case atStart => exact ⟨(y170), (0), (by first | rfl | (simp; done) | (simp [*]; done)), H', ⟨Nat.le_refl _⟩, ⟨su HO172.out⟩, ⟨bu BK169.out⟩, ⟨lu HB.out⟩⟩
  clear H'
  try clear c2
  try clear c2b0
  try clear c2b1
  try clear p2
  try clear c3
  try clear c3b0
  try clear c3b1
  try clear hcz5_0
  try clear hcz5_1
  try clear hcz5_2
  try clear hcz5_3
  try clear hcz8_0
  try clear hcz8_1
  try clear hcz8_2
  try clear hcz8_3
  try clear hfz5_0
  try clear hfz5_1
  try clear hfz5_2
  try clear hfz5_3
  try clear hfz8_0
  try clear hfz8_1
  try clear hfz8_2
  try clear hfz8_3
  obtain ⟨x3_1, x15_1, rfl, HA, HK1, HO_3, BK169, HB⟩ := hrel
  rcases gk with _ | k1
  · exact absurd HA.out (by simp [graph_Next.l0])
  have H := HA.out
  clear HA
  simp only [graph_Next.l0] at H
  by_cases c9 : x15_1 < (l0_3.length : Int)
  rotate_left
  · rw [if_neg c9] at H
    have c9b0 : decide (x15_1 < (l0_3.length : Int)) = false := decide_eq_false c9
    clear c9
    obtain rfl := Option.some.inj H
    go_wp2
    go_ret
    exact ⟨_, by first | rfl | (simp [errW_none, errW_some] <;> rfl) | (simp [*, errW_none, errW_some] <;> rfl), su HO_3.out, lu HB.out⟩
  rw [if_pos c9] at H
  have c9b0 : decide (x15_1 < (l0_3.length : Int)) = true := decide_eq_true c9
  clear c9
  by_cases c10 : 0 ≤ x15_1
  rotate_left
  · rw [if_neg c10] at H
    exact absurd H (by simp)
  rw [if_pos c10] at H
  have c10b0 : decide (0 ≤ x15_1) = true := decide_eq_true c10
  clear c10
  by_cases c11 : x15_1 < (l0_3.length : Int)
  rotate_left
  · rw [if_neg c11] at H
    exact absurd H (by simp)
  rw [if_pos c11] at H
  have c11b0 : decide (x15_1 < (l0_3.length : Int)) = true := decide_eq_true c11
  clear c11
  have H' := Aside0.mk H
  clear H
  have p173 : 0 ≤ (x15_1 : Int) := of_decide_eq_true (by with_reducible assumption)
  have q173 : x15_1 < (l0_3.length : Int) := of_decide_eq_true (by with_reducible assumption)
  obtain ⟨ad173, A173_0, c173_0, A173_1, c173_1, A173_4, c173_4, e173, hx173_0, hx173_1, hx173_2, hx173_3, hx173_4, hl173_0, hi173_0, hl173_1, hi173_1, hl173_4, hi173_4⟩ := at_T52 HR0_3.out x15_1 p173 q173
  cases e173
  replace hx173_0 := (HB.out.cell (World.block_lt_of_cell? w _ hx173_0)).trans hx173_0
  replace hx173_1 := (HB.out.cell (World.block_lt_of_cell? w _ hx173_1)).trans hx173_1
  replace hx173_2 := (HB.out.cell (World.block_lt_of_cell? w _ hx173_2)).trans hx173_2
  replace hx173_3 := (HB.out.cell (World.block_lt_of_cell? w _ hx173_3)).trans hx173_3
  replace hx173_4 := (HB.out.cell (World.block_lt_of_cell? w _ hx173_4)).trans hx173_4
  have HR173_0 := Aside0.mk hi173_0
  have HC173_0 := Aside0.mk hl173_0
  clear hi173_0 hl173_0
  have HR173_1 := Aside0.mk hi173_1
  have HC173_1 := Aside0.mk hl173_1
  clear hi173_1 hl173_1
  have HR173_4 := Aside0.mk hi173_4
  have HC173_4 := Aside0.mk hl173_4
  clear hi173_4 hl173_4
  replace p173 := eq_true p173
  replace q173 := eq_true q173
  go_wp2_with (first | ((with_reducible refine gate_dst (N := 5) rfl ?_); (try (refine gate_guard (by rfl) ?_; dsimp only)); refine box_event ?hg (N := 5) ?hd (cs := #[.slice none 0 0, .slice none 0 0, .int .i64 0, .int .i64 0, .slice none 0 0]) (t := 52) ?hr ?_; (case hd => rfl); (case hg => rfl); (case hr => first | (go_simp; done) | (go_simp; rfl)); intro gb174 hg w12 hbox hb; have n0_ := Aside0.mk (Kd.S_below (su HO_3.out) hb); have n1_ := Aside0.mk (blk_below (bu BK169.out) hb); have n2_ := Aside0.mk (below_step (lu HB.out) hb); have n3_ := Aside0.mk (hbox); have n4_ := Aside0.mk ((by rw [hg]; exact (below_size (lu HB.out)) : w.heap.size ≤ gb174)); have n5_ := Aside0.mk ((by rw [hg]; exact (below_size (lu HB.out)) : w.heap.size ≤ gb174)); have n6_ := Aside0.mk ((by rw [hg]; exact Nat.ne_of_lt (blk_lt (bu BK169.out)) : gb169 ≠ gb174)); have n7_ := Aside0.mk ((by rw [hg]; exact Nat.ne_of_gt (blk_lt (bu BK169.out)) : gb174 ≠ gb169)); clear HO_3; clear BK169; clear HB; have HO_3 := n0_; have BK169 := n1_; have HB := n2_; have BK174 := n3_; have GW174 := n4_; have GE174 := n5_; have NB169_174 := n6_; have NB174_169 := n7_; clear n0_ n1_ n2_ n3_ n4_ n5_ n6_ n7_; clear hb hbox hg; have hnb13 := NB174_169.out; have hnc13 := NB169_174.out; have hcz14_0 : w12.cell? ⟨gb174, 0, none⟩ = some (.slice none 0 0) := (blk_cell BK174.out 0).trans rfl; have hcz14_1 : w12.cell? ⟨gb174, 1, none⟩ = some (.slice none 0 0) := (blk_cell BK174.out 1).trans rfl; have hcz14_2 : w12.cell? ⟨gb174, 2, none⟩ = some (.int .i64 0) := (blk_cell BK174.out 2).trans rfl; have hcz14_3 : w12.cell? ⟨gb174, 3, none⟩ = some (.int .i64 0) := (blk_cell BK174.out 3).trans rfl; have hcz14_4 : w12.cell? ⟨gb174, 4, none⟩ = some (.slice none 0 0) := (blk_cell BK174.out 4).trans rfl; have hfz14_0 := blk_frozen BK174.out 0; have hfz14_1 := blk_frozen BK174.out 1; have hfz14_2 := blk_frozen BK174.out 2; have hfz14_3 := blk_frozen BK174.out 3; have hfz14_4 := blk_frozen BK174.out 4))
  go_loopg [24] k1 (fun kq v24 w' => ∃ (x3_2 : List (List Int)) (x24_2 : Int), v24 = .int .i64 x24_2 ∧ Aside0 (graph_Next.l1 kq x3_2 x15_1 l0_3 (l0_3.length : Int) x15_1 ((rd_T52 l0_3 x15_1).f2.f2) (((rd_T52 l0_3 x15_1).f2.f2).length : Int) x24_2 = some r) ∧ Aside0 (kq ≤ k1) ∧ Aside0 (Kd.S (Kd.slice 3 (Kd.int .i64)) 22 w' w.heap.size (fun _ => True) v171 x3_2) ∧ Aside0 (w'.heap[gb169]? = some (.cells #[.int .i64 a0_0, .int .i64 a0_1, (.slice A0_2 l0_2.length c0_2), (.slice (some ad173) l0_3.length c0_3)] 25 (0, 0))) ∧ Aside0 (w'.heap[gb174]? = some (.cells #[(.slice A173_0 ((rd_T52 l0_3 x15_1).f0).length c173_0), (.slice A173_1 ((rd_T52 l0_3 x15_1).f1).length c173_1), .int .i64 ((rd_T52 l0_3 x15_1).f2.f0), .int .i64 ((rd_T52 l0_3 x15_1).f2.f1), (.slice A173_4 ((rd_T52 l0_3 x15_1).f2.f2).length c173_4)] 52 (0, 0))) ∧ Aside0 (Below w.heap.size w w'))
  case atStart => exact ⟨(x3_1), (0), (by first | rfl | (simp; done) | (simp [*]; done)), H', ⟨Nat.le_refl _⟩, ⟨by (with_reducible repeat (first | apply S_alloc | apply S_drewN | apply S_drew)); exact S_mono (Kd.S_far (p := ⟨gb174, 4, none⟩) (Kd.S_far (p := ⟨gb174, 3, none⟩) (Kd.S_far (p := ⟨gb174, 2, none⟩) (Kd.S_far (p := ⟨gb174, 1, none⟩) (Kd.S_far (p := ⟨gb174, 0, none⟩) (Kd.S_types HO_3.out BK174.out (by decide)) (fun _ hk => hk.2) (.slice A173_0 ((rd_T52 l0_3 x15_1).f0).length c173_0)) (fun _ hk => hk.2) (.slice A173_1 ((rd_T52 l0_3 x15_1).f1).length c173_1)) (fun _ hk => hk.2) (.int .i64 ((rd_T52 l0_3 x15_1).f2.f0))) (fun _ hk => hk.2) (.int .i64 ((rd_T52 l0_3 x15_1).f2.f1))) (fun _ hk => hk.2) (.slice A173_4 ((rd_T52 l0_3 x15_1).f2.f2).length c173_4)) (fun _ hk => trivial)⟩, ⟨by (with_reducible repeat (first | refine blk_drewN ?_ _ | refine blk_drew ?_ | refine blk_alloc ?_ _)); refine blk_far ?_ NB169_174.out _; (with_reducible repeat (first | refine blk_drewN ?_ _ | refine blk_drew ?_ | refine blk_alloc ?_ _)); refine blk_far ?_ NB169_174.out _; (with_reducible repeat (first | refine blk_drewN ?_ _ | refine blk_drew ?_ | refine blk_alloc ?_ _)); refine blk_far ?_ NB169_174.out _; (with_reducible repeat (first | refine blk_drewN ?_ _ | refine blk_drew ?_ | refine blk_alloc ?_ _)); refine blk_far ?_ NB169_174.out _; (with_reducible repeat (first | refine blk_drewN ?_ _ | refine blk_drew ?_ | refine blk_alloc ?_ _)); refine blk_far ?_ NB169_174.out _; (with_reducible repeat (first | refine blk_drewN ?_ _ | refine blk_drew ?_ | refine blk_alloc ?_ _)); exact BK169.out⟩, ⟨by (with_reducible repeat (first | refine blk_drewN ?_ _ | refine blk_drew ?_ | refine blk_alloc ?_ _)); refine blk_put (cs := #[.slice A173_0 ((rd_T52 l0_3 x15_1).f0).length c173_0, .slice A173_1 ((rd_T52 l0_3 x15_1).f1).length c173_1, .int .i64 ((rd_T52 l0_3 x15_1).f2.f0), .int .i64 ((rd_T52 l0_3 x15_1).f2.f1), .slice none 0 0]) ?_ 4 _ rfl; (with_reducible repeat (first | refine blk_drewN ?_ _ | refine blk_drew ?_ | refine blk_alloc ?_ _)); refine blk_put (cs := #[.slice A173_0 ((rd_T52 l0_3 x15_1).f0).length c173_0, .slice A173_1 ((rd_T52 l0_3 x15_1).f1).length c173_1, .int .i64 ((rd_T52 l0_3 x15_1).f2.f0), .int .i64 0, .slice none 0 0]) ?_ 3 _ rfl; (with_reducible repeat (first | refine blk_drewN ?_ _ | refine blk_drew ?_ | refine blk_alloc ?_ _)); refine blk_put (cs := #[.slice A173_0 ((rd_T52 l0_3 x15_1).f0).length c173_0, .slice A173_1 ((rd_T52 l0_3 x15_1).f1).length c173_1, .int .i64 0, .int .i64 0, .slice none 0 0]) ?_ 2 _ rfl; (with_reducible repeat (first | refine blk_drewN ?_ _ | refine blk_drew ?_ | refine blk_alloc ?_ _)); refine blk_put (cs := #[.slice A173_0 ((rd_T52 l0_3 x15_1).f0).length c173_0, .slice none 0 0, .int .i64 0, .int .i64 0, .slice none 0 0]) ?_ 1 _ rfl; (with_reducible repeat (first | refine blk_drewN ?_ _ | refine blk_drew ?_ | refine blk_alloc ?_ _)); refine blk_put (cs := #[.slice none 0 0, .slice none 0 0, .int .i64 0, .int .i64 0, .slice none 0 0]) ?_ 0 _ rfl; (with_reducible repeat (first | refine blk_drewN ?_ _ | refine blk_drew ?_ | refine blk_alloc ?_ _)); exact BK174.out⟩, ⟨by repeat (first | (with_reducible first | exact HB.out | apply below_alloc | apply pw_below_drewN | apply below_drew1 | refine below_set ?_ GE169.out | refine below_set ?_ GE174.out) | exact HB.out)⟩⟩
  clear H'
  try clear c1
  try clear p1
  try clear q1
  try clear hx1
  try clear c2
  try clear c2b0
  try clear c2b1
  try clear p2
  try clear c3
  try clear c3b0
  try clear c3b1
  try clear c9
  try clear c9b0
  try clear c10
  try clear c10b0
  try clear c11
  try clear c11b0
  try clear c13
  try clear hcz14_0
  try clear hcz14_1
  try clear hcz14_2
  try clear hcz14_3
  try clear hcz14_4
  try clear hcz5_0
  try clear hcz5_1
  try clear hcz5_2
  try clear hcz5_3
  try clear hcz8_0
  try clear hcz8_1
  try clear hcz8_2
  try clear hcz8_3
  try clear hfz14_0
  try clear hfz14_1
  try clear hfz14_2
  try clear hfz14_3
  try clear hfz14_4
  try clear hfz5_0
  try clear hfz5_1
  try clear hfz5_2
  try clear hfz5_3
  try clear hfz8_0
  try clear hfz8_1
  try clear hfz8_2
  try clear hfz8_3
  try clear hx173_0
  try clear hx173_1
  try clear hx173_2
  try clear hx173_3
  try clear hx173_4
  try clear p173
  try clear p2
  try clear q173
  obtain ⟨x3_2, x24_2, rfl, HA, HK2, HO_3, BK169, BK174, HB⟩ := hrel
  rcases gk with _ | k2
  · exact absurd HA.out (by simp [graph_Next.l1])
  have H := HA.out
  clear HA
  simp only [graph_Next.l1] at H
  by_cases c15 : x24_2 < (((rd_T52 l0_3 x15_1).f2.f2).length : Int)
  · rw [if_pos c15] at H
    have c15b0 : decide (x24_2 < (((rd_T52 l0_3 x15_1).f2.f2).length : Int)) = true := decide_eq_true c15
    clear c15
    by_cases c16 : 0 ≤ x24_2
    rotate_left
    · rw [if_neg c16] at H
      exact absurd H (by simp)
    rw [if_pos c16] at H
    have c16b0 : decide (0 ≤ x24_2) = true := decide_eq_true c16
    clear c16
    by_cases c17 : x24_2 < (((rd_T52 l0_3 x15_1).f2.f2).length : Int)
    rotate_left
    · rw [if_neg c17] at H
      exact absurd H (by simp)
    rw [if_pos c17] at H
    have c17b0 : decide (x24_2 < (((rd_T52 l0_3 x15_1).f2.f2).length : Int)) = true := decide_eq_true c17
    clear c17
    by_cases c18 : (rd ((rd_T52 l0_3 x15_1).f2.f2) x24_2) ≥ 0
    · rw [if_pos c18] at H
      have c18b0 : decide (0 ≤ (rd ((rd_T52 l0_3 x15_1).f2.f2) x24_2)) = true := decide_eq_true c18
      clear c18
      by_cases c19 : (rd ((rd_T52 l0_3 x15_1).f2.f2) x24_2) < (x3_2.length : Int)
      · rw [if_pos c19] at H
        have c19b0 : decide ((rd ((rd_T52 l0_3 x15_1).f2.f2) x24_2) < (x3_2.length : Int)) = true := decide_eq_true c19
        clear c19
        by_cases c20 : 0 ≤ x15_1
        rotate_left
        · rw [if_neg c20] at H
          exact absurd H (by simp)
        rw [if_pos c20] at H
        have c20b0 : decide (0 ≤ x15_1) = true := decide_eq_true c20
        clear c20
        by_cases c21 : x15_1 < (x3_2.length : Int)
        rotate_left
        · rw [if_neg c21] at H
          exact absurd H (by simp)
        rw [if_pos c21] at H
        have c21b0 : decide (x15_1 < (x3_2.length : Int)) = true := decide_eq_true c21
        clear c21
        replace H := Option.bind_eq_some_iff.mp H
        obtain ⟨t177, A220, H⟩ := H
        replace H : (if t177 = true then (graph_Next.l1 k2 x3_2 x15_1 l0_3 (l0_3.length : Int) x15_1 ((rd_T52 l0_3 x15_1).f2.f2) (((rd_T52 l0_3 x15_1).f2.f2).length : Int) (wrap64 (x24_2 + 1))) else (if (rd_L1 x3_2 x15_1).length < 17592186044416 then (graph_Next.l1 k2 (x3_2.set (x15_1 : Int).toNat ((rd_L1 x3_2 x15_1) ++ [rd ((rd_T52 l0_3 x15_1).f2.f2) x24_2])) x15_1 l0_3 (l0_3.length : Int) x15_1 ((rd_T52 l0_3 x15_1).f2.f2) (((rd_T52 l0_3 x15_1).f2.f2).length : Int) (wrap64 (x24_2 + 1))) else (none))) = some r := H
        have A22 := Aside0.mk A220
        clear A220
        by_cases c23 : t177 = true
        · subst c23
          have H1 : (graph_Next.l1 k2 x3_2 x15_1 l0_3 (l0_3.length : Int) x15_1 ((rd_T52 l0_3 x15_1).f2.f2) (((rd_T52 l0_3 x15_1).f2.f2).length : Int) (wrap64 (x24_2 + 1))) = some r := by rw [if_pos rfl] at H; exact H
          clear H
          have H := H1
          clear H1
          have H' := Aside0.mk H
          clear H
          have p175 : 0 ≤ (x24_2 : Int) := of_decide_eq_true (by with_reducible assumption)
          have q175 : x24_2 < (((rd_T52 l0_3 x15_1).f2.f2).length : Int) := of_decide_eq_true (by with_reducible assumption)
          obtain ⟨ad175, e175, hx175_0⟩ := Kd.at_int HR173_4.out x24_2 p175 q175
          cases e175
          replace hx175_0 := (HB.out.cell (World.block_lt_of_cell? w _ hx175_0)).trans hx175_0
          replace p175 := eq_true p175
          replace q175 := eq_true q175
          obtain ⟨Ao24, co24, eo24⟩ := Kd.S_slice HO_3.out
          subst eo24
          have p176 : 0 ≤ (x15_1 : Int) := of_decide_eq_true (by with_reducible assumption)
          have q176 : x15_1 < (x3_2.length : Int) := of_decide_eq_true (by with_reducible assumption)
          obtain ⟨ad176, A176_0, c176_0, e176, hx176_0, hl176_0, hi176_0⟩ := at_L1 (S_reads' HO_3.out).2.2 x15_1 p176 q176
          cases e176
          obtain ⟨ce176, hce176, hMe176, hcc176⟩ := S_get HO_3.out [] x15_1 p176 (by first | exact q176 | exact of_decide_eq_true (by with_reducible assumption) | (have e_ := (S_reads' HO_3.out).1; omega))
          obtain ⟨ve176_0, rfl, ge176_0⟩ := hMe176
          have hv176_0 := hcc176 0 _ rfl
          rw [Nat.add_zero, show ((Kd.slice 3 (Kd.int .i64))).sz = 1 from rfl, Nat.mul_one] at hv176_0
          replace hv176_0 := Option.some.inj (hv176_0.symm.trans hx176_0)
          rw [hv176_0] at ge176_0
          have HL176_0 := Aside0.mk (show Kd.R (Kd.int .i64) 3 _ _ _ _ (rd_L1 x3_2 x15_1) from ge176_0)
          clear hv176_0 ge176_0
          have HX176_0 := Aside0.mk hx176_0
          clear hcc176 hce176
          have HR176_0 := Aside0.mk hi176_0
          have HC176_0 := Aside0.mk hl176_0
          clear hi176_0 hl176_0
          replace p176 := eq_true p176
          replace q176 := eq_true q176
          go_wp2_with (first | (go_at_call 41; (with_reducible refine (slices_Contains_int_int.calls k2 _ _ (rd_L1 x3_2 x15_1) (rd ((rd_T52 l0_3 x15_1).f2.f2) x24_2) true _ ?side1 ?side2 A22.out).mono ?_); (case side1 => repeat (first | exact (by repeat with_reducible first | exact HR176_0.out | refine C_alloc ?_ _ | refine C_drewN ?_ _ | refine C_drew ?_) | (with_reducible refine C_alloc ?_ _) | (with_reducible refine C_drewN ?_ _) | (with_reducible refine C_drew ?_))); (case side2 => exact HC176_0.out); rintro e w' ⟨rfl, ⟨nd, rfl⟩⟩))
          go_roundg k2
          case measure => have := HK1.out; have := HK2.out; omega
          case rel => exact ⟨(x3_2), (wrap64 (x24_2 + 1)), (by first | rfl | (simp; done) | (simp [*]; done)), H', ⟨by have := HK1.out; have := HK2.out; omega⟩, ⟨su HO_3.out⟩, ⟨bu BK169.out⟩, ⟨bu BK174.out⟩, ⟨lu HB.out⟩⟩
        replace c23 := Bool.eq_false_iff.mpr c23
        subst c23
        have H1 : (if (rd_L1 x3_2 x15_1).length < 17592186044416 then (graph_Next.l1 k2 (x3_2.set (x15_1 : Int).toNat ((rd_L1 x3_2 x15_1) ++ [rd ((rd_T52 l0_3 x15_1).f2.f2) x24_2])) x15_1 l0_3 (l0_3.length : Int) x15_1 ((rd_T52 l0_3 x15_1).f2.f2) (((rd_T52 l0_3 x15_1).f2.f2).length : Int) (wrap64 (x24_2 + 1))) else (none)) = some r := by rw [if_neg (show ¬ (false = true) by decide)] at H; exact H
        clear H
        have H := H1
        clear H1
        by_cases c25 : (rd_L1 x3_2 x15_1).length < 17592186044416
        rotate_left
        · rw [if_neg c25] at H
          exact absurd H (by simp)
        rw [if_pos c25] at H
        have LMc25 := Aside0.mk c25
        clear c25
        obtain ⟨y179, hy179⟩ : ∃ y_ : List Int, y_ = ((rd_L1 x3_2 x15_1) ++ [rd ((rd_T52 l0_3 x15_1).f2.f2) x24_2]) := ⟨_, rfl⟩
        replace H : (graph_Next.l1 k2 (x3_2.set (x15_1 : Int).toNat y179) x15_1 l0_3 (l0_3.length : Int) x15_1 ((rd_T52 l0_3 x15_1).f2.f2) (((rd_T52 l0_3 x15_1).f2.f2).length : Int) (wrap64 (x24_2 + 1))) = some r := by first | (rw [hy179]; with_reducible exact H) | (have H2_ := (Option.bind_some _ _).symm.trans H; rw [hy179]; with_reducible exact H2_) | exact H
        have Ny179 := Aside0.mk hy179
        clear hy179
        obtain ⟨y182, hy182⟩ : ∃ y_ : List (List Int), y_ = (x3_2.set (x15_1 : Int).toNat y179) := ⟨_, rfl⟩
        replace H : (graph_Next.l1 k2 y182 x15_1 l0_3 (l0_3.length : Int) x15_1 ((rd_T52 l0_3 x15_1).f2.f2) (((rd_T52 l0_3 x15_1).f2.f2).length : Int) (wrap64 (x24_2 + 1))) = some r := by first | (rw [hy182]; with_reducible exact H) | (have H2_ := (Option.bind_some _ _).symm.trans H; rw [hy182]; with_reducible exact H2_) | exact H
        have Ny182 := Aside0.mk hy182
        clear hy182
        have H' := Aside0.mk H
        clear H
        have p175 : 0 ≤ (x24_2 : Int) := of_decide_eq_true (by with_reducible assumption)
        have q175 : x24_2 < (((rd_T52 l0_3 x15_1).f2.f2).length : Int) := of_decide_eq_true (by with_reducible assumption)
        obtain ⟨ad175, e175, hx175_0⟩ := Kd.at_int HR173_4.out x24_2 p175 q175
        cases e175
        replace hx175_0 := (HB.out.cell (World.block_lt_of_cell? w _ hx175_0)).trans hx175_0
        replace p175 := eq_true p175
        replace q175 := eq_true q175
        obtain ⟨Ao27, co27, eo27⟩ := Kd.S_slice HO_3.out
        subst eo27
        have p176 : 0 ≤ (x15_1 : Int) := of_decide_eq_true (by with_reducible assumption)
        have q176 : x15_1 < (x3_2.length : Int) := of_decide_eq_true (by with_reducible assumption)
        obtain ⟨ad176, A176_0, c176_0, e176, hx176_0, hl176_0, hi176_0⟩ := at_L1 (S_reads' HO_3.out).2.2 x15_1 p176 q176
        cases e176
        obtain ⟨ce176, hce176, hMe176, hcc176⟩ := S_get HO_3.out [] x15_1 p176 (by first | exact q176 | exact of_decide_eq_true (by with_reducible assumption) | (have e_ := (S_reads' HO_3.out).1; omega))
        obtain ⟨ve176_0, rfl, ge176_0⟩ := hMe176
        have hv176_0 := hcc176 0 _ rfl
        rw [Nat.add_zero, show ((Kd.slice 3 (Kd.int .i64))).sz = 1 from rfl, Nat.mul_one] at hv176_0
        replace hv176_0 := Option.some.inj (hv176_0.symm.trans hx176_0)
        rw [hv176_0] at ge176_0
        have HL176_0 := Aside0.mk (show Kd.R (Kd.int .i64) 3 _ _ _ _ (rd_L1 x3_2 x15_1) from ge176_0)
        clear hv176_0 ge176_0
        have HX176_0 := Aside0.mk hx176_0
        clear hcc176 hce176
        have HR176_0 := Aside0.mk hi176_0
        have HC176_0 := Aside0.mk hl176_0
        clear hi176_0 hl176_0
        replace p176 := eq_true p176
        replace q176 := eq_true q176
        go_wp2_with (first | (go_at_call 41; (with_reducible refine (slices_Contains_int_int.calls k2 _ _ (rd_L1 x3_2 x15_1) (rd ((rd_T52 l0_3 x15_1).f2.f2) x24_2) false _ ?side1 ?side2 A22.out).mono ?_); (case side1 => repeat (first | exact (by repeat with_reducible first | exact HR176_0.out | refine C_alloc ?_ _ | refine C_drewN ?_ _ | refine C_drew ?_) | (with_reducible refine C_alloc ?_ _) | (with_reducible refine C_drewN ?_ _) | (with_reducible refine C_drew ?_))); (case side2 => exact HC176_0.out); rintro e w' ⟨rfl, ⟨nd, rfl⟩⟩; (try (rw [drewN_self wr]; generalize hq_ : World.drewN wr _ = wr; have hx176_0 : wr.cell? (ad176.add x15_1.toNat) = some (.slice A176_0 (rd_L1 x3_2 x15_1).length c176_0) := (by rw [← hq_]; simpa using hx176_0); have n0_ : Aside0 (Kd.R (Kd.int .i64) 3 wr w.heap.size (fun k_ => some k_ ≠ (.slice (some ad176) x3_2.length co27 : Value).ownBlock) (.slice A176_0 (rd_L1 x3_2 x15_1).length c176_0) (rd_L1 x3_2 x15_1)) := ⟨by rw [← hq_]; exact (ru (R_mono HL176_0.out (fun _ hk => hk.2)))⟩; have n1_ : Aside0 (Kd.S (Kd.slice 3 (Kd.int .i64)) 22 wr w.heap.size (fun _ => True) (.slice (some ad176) x3_2.length co27) x3_2) := ⟨by rw [← hq_]; exact (su HO_3.out)⟩; have n2_ : Aside0 (wr.heap[gb169]? = some (.cells #[.int .i64 a0_0, .int .i64 a0_1, .slice A0_2 l0_2.length c0_2, .slice (some ad173) l0_3.length c0_3] 25 (0, 0))) := ⟨by rw [← hq_]; exact (bu BK169.out)⟩; have n3_ : Aside0 (wr.heap[gb174]? = some (.cells #[.slice A173_0 ((rd_T52 l0_3 x15_1).f0).length c173_0, .slice A173_1 ((rd_T52 l0_3 x15_1).f1).length c173_1, .int .i64 ((rd_T52 l0_3 x15_1).f2.f0), .int .i64 ((rd_T52 l0_3 x15_1).f2.f1), .slice (some ad175) ((rd_T52 l0_3 x15_1).f2.f2).length c173_4] 52 (0, 0))) := ⟨by rw [← hq_]; exact (bu BK174.out)⟩; have n4_ : Aside0 (Below w.heap.size w wr) := ⟨by rw [← hq_]; exact (lu HB.out)⟩; have n5_ : Aside0 (Kd.C (Kd.int .i64) wr A176_0 (rd_L1 x3_2 x15_1).length (rd_L1 x3_2 x15_1)) := ⟨by rw [← hq_]; exact (by repeat with_reducible first | exact HR176_0.out | refine C_alloc ?_ _ | refine C_drewN ?_ _ | refine C_drew ?_)⟩; clear HL176_0 HO_3 BK169 BK174 HB HR176_0 hq_; have HL176_0 := n0_; have HO_3 := n1_; have BK169 := n2_; have BK174 := n3_; have HB := n4_; have HR176_0 := n5_; clear n0_ n1_ n2_ n3_ n4_ n5_)); have p178 : 0 ≤ (x15_1 : Int) := of_decide_eq_true (by with_reducible assumption); have q178 : x15_1 < (x3_2.length : Int) := of_decide_eq_true (by with_reducible assumption); obtain ⟨ad178, A178_0, c178_0, e178, hx178_0, hl178_0, hi178_0⟩ := at_L1 (S_reads' HO_3.out).2.2 x15_1 p178 q178; obtain rfl : ad176 = ad178 := (by injection e178); obtain ⟨ce178, hce178, hMe178, hcc178⟩ := S_get HO_3.out [] x15_1 p178 (by first | exact q178 | exact of_decide_eq_true (by with_reducible assumption) | (have e_ := (S_reads' HO_3.out).1; omega)); obtain ⟨ve178_0, rfl, ge178_0⟩ := hMe178; have hv178_0 := hcc178 0 _ rfl; rw [Nat.add_zero, show ((Kd.slice 3 (Kd.int .i64))).sz = 1 from rfl, Nat.mul_one] at hv178_0; replace hv178_0 := Option.some.inj (hv178_0.symm.trans hx178_0); rw [hv178_0] at ge178_0; have HL178_0 := Aside0.mk (show Kd.R (Kd.int .i64) 3 _ _ _ _ (rd_L1 x3_2 x15_1) from ge178_0); clear hv178_0 ge178_0; have HX178_0 := Aside0.mk hx178_0; clear hcc178 hce178; have HR178_0 := Aside0.mk hi178_0; have HC178_0 := Aside0.mk hl178_0; clear hi178_0 hl178_0; replace p178 := eq_true p178; replace q178 := eq_true q178; have ea_ := Option.some.inj (hx176_0.symm.trans hx178_0); injection ea_ with ea_ en_ ec_; subst ea_; subst ec_; clear en_; obtain ⟨go28, co28, eo28, gb28, gl28, cl28, HG28⟩ := Kd.S_form HO_3.out (by have h_ : (x15_1 : Int) < ((x3_2.length : Int) : Int) := of_decide_eq_true (by with_reducible assumption); have h2_ : 0 ≤ (x15_1 : Int) := (of_decide_eq_true (by with_reducible assumption)); omega); (first | cases eo28 | (injection eo28 with ea_ en_ ec_; (first | subst ea_ | (injection ea_ with ea_; subst ea_)); subst ec_; clear en_)); have GB28 := Aside0.mk gb28; have GG28 := Aside0.mk HG28; clear gb28 gl28 HG28; (first | simp only [add_plain] at hx176_0 | skip); (first | simp only [add_plain] at hx178_0 | skip); obtain ⟨oki28, ce28, hcl28, hM28, hcc28, _, _, hH28⟩ := Kd.S_elem HO_3.out [] (x15_1 : Int) (of_decide_eq_true (by with_reducible assumption)) (by have h_ : (x15_1 : Int) < ((x3_2.length : Int) : Int) := of_decide_eq_true (by with_reducible assumption); first | exact h_ | (have e_ := (S_reads' HO_3.out).1; omega) | simpa using h_); obtain ⟨ve28_0, rfl, ge28_0⟩ := hM28; have hv28 := hcc28 0 _ rfl; have hX28 := HX178_0.out; (try simp only [add_plain] at hX28); (try simp only [Nat.add_zero] at hv28); (try rw [show ((Kd.slice 3 (Kd.int .i64))).sz = 1 from rfl, Nat.mul_one] at hv28); replace hv28 := Option.some.inj (hv28.symm.trans hX28); subst hv28; clear hX28 hcc28 hcl28; have UU28 := Aside0.mk (show Kd.R (Kd.int .i64) 3 _ w.heap.size oki28 (.slice A176_0 (rd_L1 x3_2 x15_1).length c176_0) (rd_L1 x3_2 x15_1) from ge28_0); have HH28 := Aside0.mk hH28; have HN28 := Aside0.mk (S_reads' HO_3.out).1; clear hH28 ge28_0) | ((with_reducible refine gate_builtin (b := .append) (xs := #[.tmp 50, .tmp 52]) rfl ?_); (try (refine gate_guard (by rfl) ?_; dsimp only)); at_builtin; refine Kd.R_append (Kd.int .i64) (w0 := w) w.heap.size rfl (.tmp 50) (.tmp 52) 22 3 (.int .i64 0) 8 rfl Try.underlying22 info3 rfl (by decide) (by omega) (.slice A176_0 (rd_L1 x3_2 x15_1).length c176_0) (rd_L1 x3_2 x15_1) (rd ((rd_T52 l0_3 x15_1).f2.f2) x24_2) [.int .i64 (rd ((rd_T52 l0_3 x15_1).f2.f2) x24_2)] (fun k_ => oki28 k_ ∨ ((fun _ => True)) k_ ∧ wr.heap.size ≤ k_) (fun _ => False) rfl rfl ?aP (fun _ hk => hk.elim) ?aF ?aO ?aB ?aS ?aL ?_; (case aP => exact rfl); (case aB => exact (lu HB.out)); (case aF => exact (fun k_ hk => .inr ⟨trivial, hk⟩)); (case aO => exact (ru (R_mono UU28.out (fun _ hk => .inl hk)))); (case aS => exact (below_size (lu HB.out))); (case aL => have := LMc25.out; omega); intro v180 w29 ho hb hg hat; rw [← Ny179.out] at ho; have n0_ := Aside0.mk (blk_grown (bu BK169.out) hg (Kd.R_ne HL178_0.out BK169.out (by decide))); have n1_ := Aside0.mk (blk_grown (bu BK174.out) hg (Kd.R_ne HL178_0.out BK174.out (by decide))); have n2_ := Aside0.mk (hb); have n3_ := Aside0.mk (Kd.H_grown (Kd.H_widen (by repeat (first | exact HH28.out | refine Kd.H_alloc ?_ _ | refine Kd.H_drewN ?_ _ | refine Kd.H_drew ?_))) hg (fun k_ e_ => .inl (UU28.out.1 k_ e_))); have n4_ := Aside0.mk (ho); clear BK169; clear BK174; clear HB; clear HH28; clear HO_3; clear UU28; clear HL176_0; clear HL178_0; have BK169 := n0_; have BK174 := n1_; have HB := n2_; have HH28 := n3_; have HO181 := n4_; clear n0_ n1_ n2_ n3_ n4_; clear ho hb hg hat; have p26 : 0 ≤ (x15_1 : Int) := of_decide_eq_true (by with_reducible assumption); have q26 : (x15_1 : Int) < ((x3_2.length : Int) : Int) := of_decide_eq_true (by with_reducible assumption); replace p26 := eq_true p26; replace q26 := eq_true q26; obtain ⟨Ao32, co32, eo32⟩ := Kd.R_slice HO181.out; subst eo32; obtain ⟨_, _, hraw30, _, _, hcc30, _⟩ := Kd.H_raw HH28.out (of_decide_eq_true (by with_reducible assumption)) (by have h_ : (x15_1 : Int) < ((x3_2.length : Int) : Int) := of_decide_eq_true (by with_reducible assumption); first | exact h_ | (have e_ := (HN28.out); omega) | simpa using h_); obtain ⟨_, hfr30⟩ := Kd.H_at HH28.out (of_decide_eq_true (by with_reducible assumption)) (by have h_ : (x15_1 : Int) < ((x3_2.length : Int) : Int) := of_decide_eq_true (by with_reducible assumption); first | exact h_ | (have e_ := (HN28.out); omega) | simpa using h_); have hx30_0 := hcc30 0 _ rfl; have hf30_0 := hfr30 0; (try simp only [Nat.add_zero] at hx30_0 hf30_0); (try rw [show ((Kd.slice 3 (Kd.int .i64))).sz = 1 from rfl, Nat.mul_one] at hx30_0); (try rw [show ((Kd.slice 3 (Kd.int .i64))).sz = 1 from rfl, Nat.mul_one] at hf30_0); have HP30 := Kd.S_seg0 HH28.out (of_decide_eq_true (by with_reducible assumption)) (by have h_ : (x15_1 : Int) < ((x3_2.length : Int) : Int) := of_decide_eq_true (by with_reducible assumption); first | exact h_ | (have e_ := (HN28.out); omega) | simpa using h_) (seg := [.slice Ao32 y179.length co32]) (j := 0) (show 1 ≤ 1 from by decide) (x' := y179) (Kd.M_row HO181.out) (fun _ hk => hk); (try simp only [show ((Kd.slice 3 (Kd.int .i64))).sz = 1 from rfl, Nat.mul_one, Nat.add_zero] at HP30); clear hcc30 hfr30) | ((with_reducible refine gate_store (t := 22) (p := 54) rfl ?_); refine store_event (t := 22) (p := 54) (v := ?vo_w31) (w1 := (w29.setCell ⟨go28, (x15_1 : Int).toNat, none⟩ (.slice Ao32 y179.length co32))) ?hg ?ho ?hn ?hr ?_; (case ho => rfl); (case hg => rfl); (case hn => rfl); (case hr => first | (go_simp; done) | (go_simp; rfl)); intro w31 hw; have hg : w29.grownBy w31 (some go28) := (by rw [hw]; exact HP30.2); have hp_ : Kd.S (Kd.slice 3 (Kd.int .i64)) 22 w31 w.heap.size (fun _ => True) (.slice (some ⟨go28, 0, none⟩) x3_2.length co27) y182 := (by rw [hw, Ny182.out]; exact HP30.1); clear HP30; have n0_ := Aside0.mk (blk_grown (bu BK169.out) hg (Kd.R_ne hraw30 BK169.out (by decide))); have n1_ := Aside0.mk (blk_grown (bu BK174.out) hg (Kd.R_ne hraw30 BK174.out (by decide))); have n2_ := Aside0.mk ((by rw [hw]; exact below_set HB.out GB28.out : Below w.heap.size w w31)); have n3_ := Aside0.mk (hp_); clear BK169; clear BK174; clear HB; clear HO181; clear HH28; have BK169 := n0_; have BK174 := n1_; have HB := n2_; have HO_3 := n3_; clear n0_ n1_ n2_ n3_; clear hg hw hp_ hraw30))
        go_roundg k2
        case measure => have := HK1.out; have := HK2.out; omega
        case rel => exact ⟨(y182), (wrap64 (x24_2 + 1)), (by first | rfl | (simp; done) | (simp [*]; done)), H', ⟨by have := HK1.out; have := HK2.out; omega⟩, ⟨su HO_3.out⟩, ⟨bu BK169.out⟩, ⟨bu BK174.out⟩, ⟨lu HB.out⟩⟩
      rw [if_neg c19] at H
      have c19b0 : decide ((rd ((rd_T52 l0_3 x15_1).f2.f2) x24_2) < (x3_2.length : Int)) = false := decide_eq_false c19
      clear c19
      have H' := Aside0.mk H
      clear H
      have p175 : 0 ≤ (x24_2 : Int) := of_decide_eq_true (by with_reducible assumption)
      have q175 : x24_2 < (((rd_T52 l0_3 x15_1).f2.f2).length : Int) := of_decide_eq_true (by with_reducible assumption)
      obtain ⟨ad175, e175, hx175_0⟩ := Kd.at_int HR173_4.out x24_2 p175 q175
      cases e175
      replace hx175_0 := (HB.out.cell (World.block_lt_of_cell? w _ hx175_0)).trans hx175_0
      replace p175 := eq_true p175
      replace q175 := eq_true q175
      obtain ⟨Ao33, co33, eo33⟩ := Kd.S_slice HO_3.out
      subst eo33
      go_wp2
      go_roundg k2
      case measure => have := HK1.out; have := HK2.out; omega
      case rel => exact ⟨(x3_2), (wrap64 (x24_2 + 1)), (by first | rfl | (simp; done) | (simp [*]; done)), H', ⟨by have := HK1.out; have := HK2.out; omega⟩, ⟨su HO_3.out⟩, ⟨bu BK169.out⟩, ⟨bu BK174.out⟩, ⟨lu HB.out⟩⟩
    rw [if_neg c18] at H
    have c18b0 : decide (0 ≤ (rd ((rd_T52 l0_3 x15_1).f2.f2) x24_2)) = false := decide_eq_false c18
    clear c18
    have H' := Aside0.mk H
    clear H
    have p175 : 0 ≤ (x24_2 : Int) := of_decide_eq_true (by with_reducible assumption)
    have q175 : x24_2 < (((rd_T52 l0_3 x15_1).f2.f2).length : Int) := of_decide_eq_true (by with_reducible assumption)
    obtain ⟨ad175, e175, hx175_0⟩ := Kd.at_int HR173_4.out x24_2 p175 q175
    cases e175
    replace hx175_0 := (HB.out.cell (World.block_lt_of_cell? w _ hx175_0)).trans hx175_0
    replace p175 := eq_true p175
    replace q175 := eq_true q175
    go_wp2
    go_roundg k2
    case measure => have := HK1.out; have := HK2.out; omega
    case rel => exact ⟨(x3_2), (wrap64 (x24_2 + 1)), (by first | rfl | (simp; done) | (simp [*]; done)), H', ⟨by have := HK1.out; have := HK2.out; omega⟩, ⟨su HO_3.out⟩, ⟨bu BK169.out⟩, ⟨bu BK174.out⟩, ⟨lu HB.out⟩⟩
  rw [if_neg c15] at H
  have c15b0 : decide (x24_2 < (((rd_T52 l0_3 x15_1).f2.f2).length : Int)) = false := decide_eq_false c15
  clear c15
  have H' := Aside0.mk H
  clear H
  go_wp2
  go_roundg k2
  case measure => have := HK1.out; have := HK2.out; omega
  case rel => exact ⟨(x3_2), (wrap64 (x15_1 + 1)), (by first | rfl | (simp; done) | (simp [*]; done)), H', ⟨by have := HK1.out; have := HK2.out; omega⟩, ⟨su HO_3.out⟩, ⟨bu BK169.out⟩, ⟨lu HB.out⟩⟩
/-! ### slices_Reverse_int_int: function 45 -/
def slices_Reverse_int_int.l0 : Nat → List Int → Int → Int → Option (List Int)
  | 0, _, _, _ => none
  | k + 1, x0, x2, x3 => if x2 < x3 then (if 0 ≤ x3 then (if x3 < (x0.length : Int) then (if 0 ≤ x2 then (if x2 < (x0.length : Int) then (slices_Reverse_int_int.l0 k ((x0.set (x2 : Int).toNat (rd x0 x3)).set (x3 : Int).toNat (rd x0 x2)) (wrap64 (x2 + 1)) (wrap64 (x3 - 1))) else (none)) else (none)) else (none)) else (none)) else (some x0)
def slices_Reverse_int_int.f (k : Nat) (l0 : List Int) : Option (List Int) := slices_Reverse_int_int.l0 k l0 0 (wrap64 ((l0.length : Int) - 1))
theorem slices_Reverse_int_int.mono_l : ∀ k, (∀ y0 y1 y2, LeO (slices_Reverse_int_int.l0 k y0 y1 y2) (slices_Reverse_int_int.l0 (k + 1) y0 y1 y2))
  | 0 => fun _ _ _ r h => by simp [slices_Reverse_int_int.l0] at h
  | k + 1 => by
    have ih0 := slices_Reverse_int_int.mono_l k
    · intro y0 y1 y2
      unfold slices_Reverse_int_int.l0
      repeat' first
      | (with_reducible exact ih0 _ _ _)
      | (with_reducible exact LeO.refl _)
      | (with_reducible exact LeO.none _)
      | (with_reducible refine LeO.ite ?_ ?_)
      | (with_reducible refine LeO.bind ?_ (fun _ => ?_))
      | exact ih0 _ _ _
      | exact LeO.none _
      | refine LeO.ite ?_ ?_
      | refine LeO.bind ?_ (fun _ => ?_)
theorem slices_Reverse_int_int.mono : ∀ a0 k, LeO (slices_Reverse_int_int.f k a0) (slices_Reverse_int_int.f (k + 1) a0) := by
  intro a0 k
  have ih0 := slices_Reverse_int_int.mono_l k
  unfold slices_Reverse_int_int.f
  repeat' first
      | (with_reducible exact ih0 _ _ _)
      | (with_reducible exact LeO.refl _)
      | (with_reducible exact LeO.none _)
      | (with_reducible refine LeO.ite ?_ ?_)
      | (with_reducible refine LeO.bind ?_ (fun _ => ?_))
      | exact ih0 _ _ _
      | exact LeO.none _
      | refine LeO.ite ?_ ?_
      | refine LeO.bind ?_ (fun _ => ?_)
def slices_Reverse_int_int.T3 : Bool × List (List Nat × List Nat) := (true, [([], []), ([], []), ([], []), ([], []), ([], []), ([], []), ([4, 5], [4, 5]), ([6], [6]), ([], []), ([], []), ([8, 9], [8, 9]), ([10], [10]), ([0, 1, 0, 1, 4, 5, 6, 7, 11], [0, 1]), ([12, 7, 0, 1, 4, 5, 6, 7, 11], [7, 12]), ([2, 3, 0, 1, 2, 3, 4, 5, 6, 7, 8, 9, 10, 11, 12, 13], [2, 3]), ([14, 11, 13, 0, 1, 2, 3, 4, 5, 6, 7, 8, 9, 10, 11, 12, 13], [11, 14])])
def slices_Reverse_int_int.B3 : List Nat := [0, 0, 0, 0, 0, 0, 48, 112, 0, 0, 768, 1792, 4083, 8179, 16383, 32767]
theorem slices_Reverse_int_int.tab3 : rtab .any (opsOf Try.f45 3) = slices_Reverse_int_int.T3 := by kernel_rfl
theorem slices_Reverse_int_int.bits3 : waitsOk slices_Reverse_int_int.T3.2 slices_Reverse_int_int.B3 = true := by kernel_rfl
set_option maxHeartbeats 8000000 in
set_option maxRecDepth 100000 in
theorem slices_Reverse_int_int.calls (k : Nat) (P0_ : Nat → Prop) (u9000_ : Value) (l0 : List Int) (r : List Int) (w0 w : World) (hB : Below w0.heap.size w0 w) (ho0 : Kd.R (Kd.int .i64) 3 w w0.heap.size P0_ u9000_ l0) (h : slices_Reverse_int_int.f k l0 = some r) :
    Calls Try.prog 45 #[u9000_] w fun e w' => e = .returned (.tuple #[]) ∧ Kd.R (Kd.int .i64) 3 w' w0.heap.size (fun k_ => (P0_ k_ ∨ w.heap.size ≤ k_)) u9000_ r ∧ Below w0.heap.size w0 w' ∧ Kept w w' (fun k_ => P0_ k_) := by
  have HO0 := Aside0.mk (show Kd.R (Kd.int .i64) 3 w w0.heap.size (fun k_ => (P0_ k_ ∨ w.heap.size ≤ k_)) u9000_ l0 from R_mono ho0 (fun k_ hk => (.inl hk)))
  have HK := Aside0.mk (Kept.refl w (fun k_ => P0_ k_))
  have HW0 := Aside0.mk hB.size
  have HB := Aside0.mk hB
  clear hB
  have H : (slices_Reverse_int_int.l0 k l0 0 (wrap64 ((l0.length : Int) - 1))) = some r := h
  clear h
  have H' := Aside0.mk H
  clear H
  obtain ⟨Ao2, co2, eo2⟩ := Kd.R_slice HO0.out
  subst eo2
  go_enter Try.func45, Try.ntmps45
  go_wp2
  go_loopg [2, 3] k (fun kq v2 v3 w' => ∃ (x0_1 : List Int) (x2_1 : Int) (x3_1 : Int), v2 = .int .i64 x2_1 ∧ v3 = .int .i64 x3_1 ∧ Aside0 (slices_Reverse_int_int.l0 kq x0_1 x2_1 x3_1 = some r) ∧ Aside0 (kq ≤ k) ∧ Aside0 (Kd.R (Kd.int .i64) 3 w' w0.heap.size (fun k_ => (P0_ k_ ∨ w.heap.size ≤ k_)) (.slice Ao2 l0.length co2) x0_1) ∧ Aside0 (Kept w w' (fun k_ => P0_ k_)) ∧ Aside0 (Below w0.heap.size w0 w'))
  case atStart => exact ⟨(l0), (0), (wrap64 ((l0.length : Int) - 1)), (by first | rfl | (simp; done) | (simp [*]; done)), (by first | rfl | (simp; done) | (simp [*]; done)), H', ⟨Nat.le_refl _⟩, ⟨ru HO0.out⟩, ⟨by repeat (first | (with_reducible first | exact HK.out | apply Kept.alloc | apply Kept.drewN | apply Kept.drew) | exact HK.out)⟩, ⟨lu HB.out⟩⟩
  clear H'
  try clear p2
  obtain ⟨x0_1, x2_1, x3_1, rfl, rfl, HA, HK1, HO_0, HK, HB⟩ := hrel
  have hl0_1 := (R_reads' HO_0.out).1
  rw [hl0_1] at HO_0
  (try simp only [hl0_1])
  rcases gk with _ | k1
  · exact absurd HA.out (by simp [slices_Reverse_int_int.l0])
  have H := HA.out
  clear HA
  simp only [slices_Reverse_int_int.l0] at H
  by_cases c3 : x2_1 < x3_1
  · rw [if_pos c3] at H
    have c3b0 : decide (x2_1 < x3_1) = true := decide_eq_true c3
    clear c3
    by_cases c4 : 0 ≤ x3_1
    rotate_left
    · rw [if_neg c4] at H
      exact absurd H (by simp)
    rw [if_pos c4] at H
    have c4b0 : decide (0 ≤ x3_1) = true := decide_eq_true c4
    clear c4
    by_cases c5 : x3_1 < (x0_1.length : Int)
    rotate_left
    · rw [if_neg c5] at H
      exact absurd H (by simp)
    rw [if_pos c5] at H
    have c5b0 : decide (x3_1 < (x0_1.length : Int)) = true := decide_eq_true c5
    have c5b0l := c5b0
    (try simp only [hl0_1] at c5b0l)
    clear c5
    by_cases c6 : 0 ≤ x2_1
    rotate_left
    · rw [if_neg c6] at H
      exact absurd H (by simp)
    rw [if_pos c6] at H
    have c6b0 : decide (0 ≤ x2_1) = true := decide_eq_true c6
    clear c6
    by_cases c7 : x2_1 < (x0_1.length : Int)
    rotate_left
    · rw [if_neg c7] at H
      exact absurd H (by simp)
    rw [if_pos c7] at H
    have c7b0 : decide (x2_1 < (x0_1.length : Int)) = true := decide_eq_true c7
    have c7b0l := c7b0
    (try simp only [hl0_1] at c7b0l)
    clear c7
    obtain ⟨y185, hy185⟩ : ∃ y_ : List Int, y_ = (x0_1.set (x2_1 : Int).toNat (rd x0_1 x3_1)) := ⟨_, rfl⟩
    replace H : (slices_Reverse_int_int.l0 k1 (y185.set (x3_1 : Int).toNat (rd x0_1 x2_1)) (wrap64 (x2_1 + 1)) (wrap64 (x3_1 - 1))) = some r := by first | (rw [hy185]; with_reducible exact H) | (have H2_ := (Option.bind_some _ _).symm.trans H; rw [hy185]; with_reducible exact H2_) | exact H
    have Ny185 := Aside0.mk hy185
    clear hy185
    obtain ⟨y186, hy186⟩ : ∃ y_ : List Int, y_ = (y185.set (x3_1 : Int).toNat (rd x0_1 x2_1)) := ⟨_, rfl⟩
    replace H : (slices_Reverse_int_int.l0 k1 y186 (wrap64 (x2_1 + 1)) (wrap64 (x3_1 - 1))) = some r := by first | (rw [hy186]; with_reducible exact H) | (have H2_ := (Option.bind_some _ _).symm.trans H; rw [hy186]; with_reducible exact H2_) | exact H
    have Ny186 := Aside0.mk hy186
    clear hy186
    have H' := Aside0.mk H
    clear H
    try go_wp2
    have n0_ := Aside0.mk (R_drew HO_0.out)
    have n1_ := Aside0.mk (Kept.drew HK.out)
    have n2_ := Aside0.mk (below_drew1 HB.out)
    clear HO_0
    clear HK
    clear HB
    have HO_0 := n0_
    have HK := n1_
    have HB := n2_
    clear n0_ n1_ n2_
    have p183 : 0 ≤ (x3_1 : Int) := of_decide_eq_true (by with_reducible assumption)
    have q183 : x3_1 < (x0_1.length : Int) := of_decide_eq_true (by with_reducible assumption)
    obtain ⟨ad183, e183, hx183_0⟩ := Kd.at_int (R_reads' HO_0.out).2.2 x3_1 p183 q183
    cases e183
    replace p183 := eq_true p183
    replace q183 := eq_true q183
    have p184 : 0 ≤ (x2_1 : Int) := of_decide_eq_true (by with_reducible assumption)
    have q184 : x2_1 < (x0_1.length : Int) := of_decide_eq_true (by with_reducible assumption)
    obtain ⟨ad184, e184, hx184_0⟩ := Kd.at_int (R_reads' HO_0.out).2.2 x2_1 p184 q184
    obtain rfl : ad183 = ad184 := (by injection e184)
    replace p184 := eq_true p184
    replace q184 := eq_true q184
    have p8 : 0 ≤ (x2_1 : Int) := of_decide_eq_true (by with_reducible assumption)
    have q8 : (x2_1 : Int) < ((x0_1.length : Int) : Int) := of_decide_eq_true (by with_reducible assumption)
    obtain ⟨go8, co8, eo8, gb8, gl8, cl8, HG8⟩ := Kd.R_form HO_0.out (by omega)
    (first | cases eo8 | (injection eo8 with ea_ en_ ec_; (first | subst ea_ | (injection ea_ with ea_; subst ea_)); subst ec_; clear en_))
    have GB8 := Aside0.mk gb8
    have GG8 := Aside0.mk HG8
    clear gb8 gl8 HG8
    have HMgo8 := Aside0.mk (show (P0_ go8 ∨ w.heap.size ≤ go8) from (HO_0.out.1 _ rfl))
    (first | simp only [add_plain] at hx183_0 | skip)
    (first | simp only [add_plain] at hx184_0 | skip)
    obtain ⟨hx8_0, hf8_0⟩ := Kd.R_celln 0 HO_0.out (x2_1 : Int) p8 q8
    replace p8 := eq_true p8
    replace q8 := eq_true q8
    have HP11 := Kd.R_putn HO_0.out (x2_1 : Int) (rd x0_1 x3_1)
    rw [← Ny185.out] at HP11
    have HQ11 := Aside0.mk HP11
    clear HP11
    have p9 : 0 ≤ (x3_1 : Int) := of_decide_eq_true (by with_reducible assumption)
    have q9 : (x3_1 : Int) < ((x0_1.length : Int) : Int) := of_decide_eq_true (by with_reducible assumption)
    obtain ⟨hx9_0, hf9_0⟩ := Kd.R_celln 0 HQ11.out (x3_1 : Int) p9 q9
    replace p9 := eq_true p9
    replace q9 := eq_true q9
    have HP12 := Kd.R_putn HQ11.out (x3_1 : Int) (rd x0_1 x2_1)
    rw [← Ny186.out] at HP12
    have HQ12 := Aside0.mk HP12
    clear HP12
    refine start_ (n := 16) (S := fun w' => w'.cell? ⟨go8, (x3_1).toNat, none⟩ = some (.int .i64 (rd x0_1 x3_1)) ∧ w'.cell? ⟨go8, (x2_1).toNat, none⟩ = some (.int .i64 (rd x0_1 x2_1))) (ds := [13, 15]) #[false, false, false, false, false, false, false, false, false, false, false, false, false, false, false, false] (by kernel_rfl) rfl rfl ⟨hx183_0, hx184_0⟩ (fun hHeld => ?_); refine with_tabW slices_Reverse_int_int.tab3 slices_Reverse_int_int.bits3 (fun HT_ HW_ => ?_)
    generalize wr.drew = w10 at HO_0 HK HB GG8 HQ11 HQ12 hf8_0 hf9_0 hx183_0 hx184_0 hx8_0 hx9_0 hHeld ⊢
    refine pu 0 14 (bt 16 1) HT_.out ?_
    refine pu 1 15 (bt 16 3) HT_.out ?_
    refine pu 2 16 (bt 16 7) HT_.out ?_
    refine pu 3 17 (bt 16 15) HT_.out ?_
    refine pu 4 18 (bt 16 31) HT_.out ?_
    refine pu 5 19 (bt 16 63) HT_.out ?_
    refine pu 6 20 (bt 16 127) HT_.out ?_
    refine pu 8 22 (bt 16 383) HT_.out ?_
    refine pu 9 23 (bt 16 895) HT_.out ?_
    refine pu 10 24 (bt 16 1919) HT_.out ?_
    refine tk 7 21 (bt 16 2047) HT_.out HW_.out hHeld rfl rfl (by rintro w' ⟨s0, s1⟩; go_simp; with_reducible rfl) ?_
    refine tk 11 25 (bt 16 4095) HT_.out HW_.out hHeld rfl rfl (by rintro w' ⟨s0, s1⟩; go_simp; with_reducible rfl) ?_
    refine pu 12 26 (bt 16 8191) HT_.out ?_
    refine last_ (i := 13) (N := none) (bt 16 16383) rfl rfl (one_of HT_.out (by kernel_rfl)) (by decide) (fun K hK => ?_)
    refine skip_ (w1 := ?_) (by rfl) rfl ?_ ?_
    rotate_left
    · go_simp
      rfl
    refine hK.out _ _ ?_
    clear hK K
    refine pu 14 27 (bt 16 32767) HT_.out ?_
    refine last_ (i := 15) (N := none) (bt 16 65535) rfl rfl (one_of HT_.out (by kernel_rfl)) (by decide) (fun K hK => ?_)
    refine skip_ (w1 := ?_) (by rfl) rfl ?_ ?_
    rotate_left
    · go_simp
      rfl
    refine hK.out _ _ ?_
    clear hK K
    refine done_ (done_of HT_.out (by kernel_rfl)) ?_
    try go_wp2
    (try simp only [← hl0_1])
    go_roundg k1
    case measure => have := HK1.out; omega
    case rel => exact ⟨(y186), (wrap64 (x2_1 + 1)), (wrap64 (x3_1 - 1)), (by first | rfl | (simp; done) | (simp [*]; done)), (by first | rfl | (simp; done) | (simp [*]; done)), H', ⟨by have := HK1.out; omega⟩, ⟨by (try simp only [hl0_1]); (with_reducible repeat (first | apply R_alloc | apply R_drewN | apply R_drew)); exact HQ12.out⟩, ⟨by repeat (first | (with_reducible first | exact HK.out | apply Kept.alloc | apply Kept.drewN | apply Kept.drew | refine Kept.setCell ?_ HMgo8.out _ | refine Kept.setCell ?_ HMgo8.out _) | exact HK.out)⟩, ⟨by repeat (first | (with_reducible first | exact HB.out | apply below_alloc | apply pw_below_drewN | apply below_drew1 | refine below_set ?_ GB8.out | refine below_set ?_ GB8.out) | exact HB.out)⟩⟩
  rw [if_neg c3] at H
  have c3b0 : decide (x2_1 < x3_1) = false := decide_eq_false c3
  clear c3
  obtain rfl := Option.some.inj H
  go_wp2
  first | go_end0 | ((try simp only [Exit.inBlock, Exit.then]); refine bodyPost_ret (results_none rfl _ _ _) rfl ?_)
  exact ⟨by first | rfl | (simp [errW_none, errW_some] <;> rfl) | (simp [*, errW_none, errW_some] <;> rfl), (by first | exact (ru HO_0.out) | (simp only [hl0_1]; exact (ru HO_0.out))), lu HB.out, by repeat (first | (with_reducible first | exact HK.out | apply Kept.alloc | apply Kept.drewN | apply Kept.drew) | exact HK.out)⟩
end Go.Proofs.Ytpionncanaamgaa.PLoopsStays
