-- Laid by a program of this session (wip/pp/patch.py over the kit's print).
-- mended yes
-- mended: lengths
import Derived.Test.YtpionncanaamgaaUp
import Derived.Test.YtpionncanaamgaaPLoopsStaysx0
import Derived.Test.YtpionncanaamgaaPLoopsStaysx7
import Derived.Test.YtpionncanaamgaaPLoopsStaysx9
namespace Go.Proofs.Ytpionncanaamgaa.PLoopsStays
open Go.Proofs.Ytpionncanaamgaa.Up Go.RowKit Go.Proofs.YtpionncanaamgaaW.PrintWords Go.Proofs.YtpionncanaamgaaW.PrintLast Go.Proofs.YtpionncanaamgaaW.PrintMore Go.Proofs.YtpionncanaamgaaW.PrintWords.Kd
attribute [local go_sem] max2_int min2_int max_two min_two max_three min_three max_four min_four   -- for this text's walks alone
set_option linter.unusedVariables false
set_option linter.unusedSimpArgs false
/-! ### graph_Reached: function 32 -/
def graph_Reached.f (k : Nat) (a0_0 : Int) (a0_1 : Int) (l0_2 : List Int) (l0_3 : List (S52)) : Option (List Bool) := (graph_order.f k a0_0 a0_1 l0_2 l0_3).bind fun bt243 => (some bt243.2)
theorem graph_Reached.mono : ∀ a0 a1 a2 a3 k, LeO (graph_Reached.f k a0 a1 a2 a3) (graph_Reached.f (k + 1) a0 a1 a2 a3) := by
  intro a0 a1 a2 a3 k
  unfold graph_Reached.f
  repeat' first
      | (with_reducible exact graph_order.mono _ _ _ _ _)
      | (with_reducible exact LeO.refl _)
      | (with_reducible exact LeO.none _)
      | (with_reducible refine LeO.ite ?_ ?_)
      | (with_reducible refine LeO.bind ?_ (fun _ => ?_))
      | exact graph_order.mono _ _ _ _ _
      | exact LeO.none _
      | refine LeO.ite ?_ ?_
      | refine LeO.bind ?_ (fun _ => ?_)
set_option maxHeartbeats 8000000 in
set_option maxRecDepth 100000 in
theorem graph_Reached.calls (k : Nat) (a0_0 : Int) (a0_1 : Int) (A0_2 : Option Addr) (c0_2 : Nat) (l0_2 : List Int) (A0_3 : Option Addr) (c0_3 : Nat) (l0_3 : List (S52)) (r : List Bool) (w : World) (hr0_2 : Kd.C (Kd.int .i64) w A0_2 l0_2.length l0_2) (hc0_2 : l0_2.length ≤ c0_2) (hr0_3 : Kd.C k52 w A0_3 l0_3.length l0_3) (hc0_3 : l0_3.length ≤ c0_3) (h : graph_Reached.f k a0_0 a0_1 l0_2 l0_3 = some r) :
    Calls Try.prog 32 #[.agg #[.int .i64 a0_0, .int .i64 a0_1, .slice A0_2 l0_2.length c0_2, .slice A0_3 l0_3.length c0_3]] w fun e w' => ∃ v0_ : Value, e = .returned (v0_) ∧ Kd.R Kd.bool 4 w' w.heap.size (fun _ => True) v0_ r ∧ Below w.heap.size w w' := by
  have hu25 := Try.underlying25
  have HR0_2 := Aside0.mk hr0_2
  have HC0_2 := Aside0.mk hc0_2
  clear hr0_2 hc0_2
  have HR0_3 := Aside0.mk hr0_3
  have HC0_3 := Aside0.mk hc0_3
  clear hr0_3 hc0_3
  have HB := Aside0.mk (Below.refl w.heap.size w)
  have H : ((graph_order.f k a0_0 a0_1 l0_2 l0_3).bind fun bt243 => (some bt243.2)) = some r := h
  clear h
  replace H := Option.bind_eq_some_iff.mp H
  obtain ⟨⟨t243, t246⟩, A20, H⟩ := H
  replace H : (some t246) = some r := H
  have A2 := Aside0.mk A20
  clear A20
  obtain rfl := Option.some.inj H
  go_enter Try.func32, Try.ntmps32
  go_wp2_with (first | ((with_reducible refine gate_dst (N := 1) rfl ?_); refine box_event ?hg (N := 1) ?hd (cs := #[.int .i64 a0_0, .int .i64 a0_1, .slice A0_2 l0_2.length c0_2, .slice A0_3 l0_3.length c0_3]) (t := 25) ?hr ?_; (case hd => rfl); (case hg => rfl); (case hr => first | (go_simp; done) | (go_simp; rfl)); intro gb242 hg w3 hbox hb; have n0_ := Aside0.mk (below_step (lu HB.out) hb); have n1_ := Aside0.mk (hbox); have n2_ := Aside0.mk ((by rw [hg]; exact (below_size (lu HB.out)) : w.heap.size ≤ gb242)); have n3_ := Aside0.mk ((by rw [hg]; exact (below_size (lu HB.out)) : w.heap.size ≤ gb242)); clear HB; have HB := n0_; have BK242 := n1_; have GW242 := n2_; have GE242 := n3_; clear n0_ n1_ n2_ n3_; clear hb hbox hg; have hcz4_0 : w3.cell? ⟨gb242, 0, none⟩ = some (.int .i64 a0_0) := (blk_cell BK242.out 0).trans rfl; have hcz4_1 : w3.cell? ⟨gb242, 1, none⟩ = some (.int .i64 a0_1) := (blk_cell BK242.out 1).trans rfl; have hcz4_2 : w3.cell? ⟨gb242, 2, none⟩ = some (.slice A0_2 l0_2.length c0_2) := (blk_cell BK242.out 2).trans rfl; have hcz4_3 : w3.cell? ⟨gb242, 3, none⟩ = some (.slice A0_3 l0_3.length c0_3) := (blk_cell BK242.out 3).trans rfl; have hfz4_0 := blk_frozen BK242.out 0; have hfz4_1 := blk_frozen BK242.out 1; have hfz4_2 := blk_frozen BK242.out 2; have hfz4_3 := blk_frozen BK242.out 3) | ((with_reducible refine gate_callee (f := 42) rfl ?_); refine goesL_ (some 7) rfl rfl Try.func42 (by kernel_rfl) rfl #[.agg #[.int .i64 a0_0, .int .i64 a0_1, .slice A0_2 l0_2.length c0_2, .slice A0_3 l0_3.length c0_3]] rfl (by (try simp only [List.map_toArray, List.map_cons, List.map_nil]); first | done | rfl) ?_; (with_reducible refine (graph_order.calls k a0_0 a0_1 _ _ l0_2 _ _ l0_3 t243 t246 _ ?side1 ?side2 ?side3 ?side4 A2.out).mono ?_); (case side1 => exact cu (C_below HR0_2.out HB.out)); (case side2 => exact HC0_2.out); (case side3 => exact cu (C_below HR0_3.out HB.out)); (case side4 => exact HC0_3.out); rintro e w5 ⟨v244, v247, rfl, ho0, ho1, hb⟩; refine ⟨_, rfl, ?_⟩; have n0_ := Aside0.mk (Kd.R_lower ho0 (below_size (lu HB.out))); have n1_ := Aside0.mk (Kd.R_lower ho1 (below_size (lu HB.out))); have n2_ := Aside0.mk (blk_below (bu BK242.out) hb); have n3_ := Aside0.mk (below_step (lu HB.out) hb); clear BK242; clear HB; have HO245 := n0_; have HO248 := n1_; have BK242 := n2_; have HB := n3_; clear n0_ n1_ n2_ n3_; (try clear hb); (try clear hb2); (try clear hk); (try clear hi); (try clear ho0); (try clear ho1)))
  go_ret
  exact ⟨_, by first | rfl | (simp [errW_none, errW_some] <;> rfl) | (simp [*, errW_none, errW_some] <;> rfl), ru HO248.out, lu HB.out⟩
/-! ### dom_Dominates: function 17 -/
mutual
def dom_Dominates.l0 : Nat → List Int → List Bool → List (List Bool) → Int → Int → Option ((List (List Bool)))
  | 0, _, _, _, _, _ => none
  | k + 1, x3, x4, x5, x17, x18 => if x18 < x17 then (if 0 ≤ (x3.length : Int) then (if ((x3.length : Int) : Int).toNat ≤ 281474976710656 then (if 0 ≤ x18 then (if x18 < (x5.length : Int) then (dom_Dominates.l0 k x3 x4 (x5.set (x18 : Int).toNat (List.replicate ((x3.length : Int) : Int).toNat false)) x17 (wrap64 (x18 + 1))) else (none)) else (none)) else (none)) else (none)) else (dom_Dominates.l1 k x3 x4 x5 (x5.length : Int) 0)
def dom_Dominates.l1 : Nat → List Int → List Bool → List (List Bool) → Int → Int → Option ((List (List Bool)))
  | 0, _, _, _, _, _ => none
  | k + 1, x3, x4, x5, x29, x30 => if x30 < x29 then (dom_Dominates.l2 k x3 x4 x5 x30 x30 x29 x30) else (some x5)
def dom_Dominates.l2 : Nat → List Int → List Bool → List (List Bool) → Int → Int → Int → Int → Option ((List (List Bool)))
  | 0, _, _, _, _, _, _, _ => none
  | k + 1, x3, x4, x5, x7, x8, x29, x30 => if 0 ≤ x7 then (if x7 < (x4.length : Int) then (if rdOf false x4 x7 = true then (if x8 ≥ 0 then (if 0 ≤ x8 then (if x8 < (x5.length : Int) then (if x7 < ((rd_L11 x5 x8).length : Int) then (if x8 < (x3.length : Int) then (dom_Dominates.l2 k x3 x4 (x5.set (x8 : Int).toNat ((rd_L11 x5 x8).set (x7 : Int).toNat true)) x7 (rd x3 x8) x29 x30) else (none)) else (none)) else (none)) else (none)) else (dom_Dominates.l1 k x3 x4 x5 x29 (wrap64 (x30 + 1)))) else (dom_Dominates.l1 k x3 x4 x5 x29 (wrap64 (x30 + 1)))) else (none)) else (none)
end
def dom_Dominates.f (k : Nat) (a0_0 : Int) (a0_1 : Int) (l0_2 : List Int) (l0_3 : List (S52)) : Option ((List (List Bool))) := (dom_Nearest.f k a0_0 a0_1 l0_2 l0_3).bind fun t250 => ((graph_Reached.f k a0_0 a0_1 l0_2 l0_3).bind fun t253 => (if 0 ≤ (t250.length : Int) then (if ((t250.length : Int) : Int).toNat ≤ 11728124029610 then ((some (List.replicate ((t250.length : Int) : Int).toNat [] : List (List Bool))).bind fun y256 => (dom_Dominates.l0 k t250 t253 y256 (y256.length : Int) 0)) else (none)) else (none)))
theorem dom_Dominates.mono_l : ∀ k, (∀ y0 y1 y2 y3 y4, LeO (dom_Dominates.l0 k y0 y1 y2 y3 y4) (dom_Dominates.l0 (k + 1) y0 y1 y2 y3 y4)) ∧ (∀ y0 y1 y2 y3 y4, LeO (dom_Dominates.l1 k y0 y1 y2 y3 y4) (dom_Dominates.l1 (k + 1) y0 y1 y2 y3 y4)) ∧ (∀ y0 y1 y2 y3 y4 y5 y6, LeO (dom_Dominates.l2 k y0 y1 y2 y3 y4 y5 y6) (dom_Dominates.l2 (k + 1) y0 y1 y2 y3 y4 y5 y6))
  | 0 => ⟨fun _ _ _ _ _ r h => by simp [dom_Dominates.l0] at h, fun _ _ _ _ _ r h => by simp [dom_Dominates.l1] at h, fun _ _ _ _ _ _ _ r h => by simp [dom_Dominates.l2] at h⟩
  | k + 1 => by
    obtain ⟨ih0, ih1, ih2⟩ := dom_Dominates.mono_l k
    refine ⟨?_, ?_, ?_⟩
    · intro y0 y1 y2 y3 y4
      unfold dom_Dominates.l0
      repeat' first
      | (with_reducible exact ih0 _ _ _ _ _)
      | (with_reducible exact ih1 _ _ _ _ _)
      | (with_reducible exact ih2 _ _ _ _ _ _ _)
      | (with_reducible exact dom_Nearest.mono _ _ _ _ _)
      | (with_reducible exact graph_Reached.mono _ _ _ _ _)
      | (with_reducible exact LeO.refl _)
      | (with_reducible exact LeO.none _)
      | (with_reducible refine LeO.ite ?_ ?_)
      | (with_reducible refine LeO.bind ?_ (fun _ => ?_))
      | exact ih0 _ _ _ _ _
      | exact ih1 _ _ _ _ _
      | exact ih2 _ _ _ _ _ _ _
      | exact dom_Nearest.mono _ _ _ _ _
      | exact graph_Reached.mono _ _ _ _ _
      | exact LeO.none _
      | refine LeO.ite ?_ ?_
      | refine LeO.bind ?_ (fun _ => ?_)
    · intro y0 y1 y2 y3 y4
      unfold dom_Dominates.l1
      repeat' first
      | (with_reducible exact ih0 _ _ _ _ _)
      | (with_reducible exact ih1 _ _ _ _ _)
      | (with_reducible exact ih2 _ _ _ _ _ _ _)
      | (with_reducible exact dom_Nearest.mono _ _ _ _ _)
      | (with_reducible exact graph_Reached.mono _ _ _ _ _)
      | (with_reducible exact LeO.refl _)
      | (with_reducible exact LeO.none _)
      | (with_reducible refine LeO.ite ?_ ?_)
      | (with_reducible refine LeO.bind ?_ (fun _ => ?_))
      | exact ih0 _ _ _ _ _
      | exact ih1 _ _ _ _ _
      | exact ih2 _ _ _ _ _ _ _
      | exact dom_Nearest.mono _ _ _ _ _
      | exact graph_Reached.mono _ _ _ _ _
      | exact LeO.none _
      | refine LeO.ite ?_ ?_
      | refine LeO.bind ?_ (fun _ => ?_)
    · intro y0 y1 y2 y3 y4 y5 y6
      unfold dom_Dominates.l2
      repeat' first
      | (with_reducible exact ih0 _ _ _ _ _)
      | (with_reducible exact ih1 _ _ _ _ _)
      | (with_reducible exact ih2 _ _ _ _ _ _ _)
      | (with_reducible exact dom_Nearest.mono _ _ _ _ _)
      | (with_reducible exact graph_Reached.mono _ _ _ _ _)
      | (with_reducible exact LeO.refl _)
      | (with_reducible exact LeO.none _)
      | (with_reducible refine LeO.ite ?_ ?_)
      | (with_reducible refine LeO.bind ?_ (fun _ => ?_))
      | exact ih0 _ _ _ _ _
      | exact ih1 _ _ _ _ _
      | exact ih2 _ _ _ _ _ _ _
      | exact dom_Nearest.mono _ _ _ _ _
      | exact graph_Reached.mono _ _ _ _ _
      | exact LeO.none _
      | refine LeO.ite ?_ ?_
      | refine LeO.bind ?_ (fun _ => ?_)
theorem dom_Dominates.mono : ∀ a0 a1 a2 a3 k, LeO (dom_Dominates.f k a0 a1 a2 a3) (dom_Dominates.f (k + 1) a0 a1 a2 a3) := by
  intro a0 a1 a2 a3 k
  obtain ⟨ih0, ih1, ih2⟩ := dom_Dominates.mono_l k
  unfold dom_Dominates.f
  repeat' first
      | (with_reducible exact ih0 _ _ _ _ _)
      | (with_reducible exact ih1 _ _ _ _ _)
      | (with_reducible exact ih2 _ _ _ _ _ _ _)
      | (with_reducible exact dom_Nearest.mono _ _ _ _ _)
      | (with_reducible exact graph_Reached.mono _ _ _ _ _)
      | (with_reducible exact LeO.refl _)
      | (with_reducible exact LeO.none _)
      | (with_reducible refine LeO.ite ?_ ?_)
      | (with_reducible refine LeO.bind ?_ (fun _ => ?_))
      | exact ih0 _ _ _ _ _
      | exact ih1 _ _ _ _ _
      | exact ih2 _ _ _ _ _ _ _
      | exact dom_Nearest.mono _ _ _ _ _
      | exact graph_Reached.mono _ _ _ _ _
      | exact LeO.none _
      | refine LeO.ite ?_ ?_
      | refine LeO.bind ?_ (fun _ => ?_)
set_option maxHeartbeats 8000000 in
set_option maxRecDepth 100000 in
theorem dom_Dominates.calls (k : Nat) (a0_0 : Int) (a0_1 : Int) (A0_2 : Option Addr) (c0_2 : Nat) (l0_2 : List Int) (A0_3 : Option Addr) (c0_3 : Nat) (l0_3 : List (S52)) (r : List (List Bool)) (w : World) (hr0_2 : Kd.C (Kd.int .i64) w A0_2 l0_2.length l0_2) (hc0_2 : l0_2.length ≤ c0_2) (hr0_3 : Kd.C k52 w A0_3 l0_3.length l0_3) (hc0_3 : l0_3.length ≤ c0_3) (h : dom_Dominates.f k a0_0 a0_1 l0_2 l0_3 = some r) :
    Calls Try.prog 17 #[.agg #[.int .i64 a0_0, .int .i64 a0_1, .slice A0_2 l0_2.length c0_2, .slice A0_3 l0_3.length c0_3]] w fun e w' => ∃ v0_ : Value, e = .returned (v0_) ∧ Kd.S (Kd.slice 4 Kd.bool) 34 w' w.heap.size (fun _ => True) v0_ r ∧ Below w.heap.size w w' := by
  have hu25 := Try.underlying25
  have HR0_2 := Aside0.mk hr0_2
  have HC0_2 := Aside0.mk hc0_2
  clear hr0_2 hc0_2
  have HR0_3 := Aside0.mk hr0_3
  have HC0_3 := Aside0.mk hc0_3
  clear hr0_3 hc0_3
  have HB := Aside0.mk (Below.refl w.heap.size w)
  have H : ((dom_Nearest.f k a0_0 a0_1 l0_2 l0_3).bind fun t250 => ((graph_Reached.f k a0_0 a0_1 l0_2 l0_3).bind fun t253 => (if 0 ≤ (t250.length : Int) then (if ((t250.length : Int) : Int).toNat ≤ 11728124029610 then ((some (List.replicate ((t250.length : Int) : Int).toNat [] : List (List Bool))).bind fun y256 => (dom_Dominates.l0 k t250 t253 y256 (y256.length : Int) 0)) else (none)) else (none)))) = some r := h
  clear h
  replace H := Option.bind_eq_some_iff.mp H
  obtain ⟨t250, A20, H⟩ := H
  replace H : ((graph_Reached.f k a0_0 a0_1 l0_2 l0_3).bind fun t253 => (if 0 ≤ (t250.length : Int) then (if ((t250.length : Int) : Int).toNat ≤ 11728124029610 then ((some (List.replicate ((t250.length : Int) : Int).toNat [] : List (List Bool))).bind fun y256 => (dom_Dominates.l0 k t250 t253 y256 (y256.length : Int) 0)) else (none)) else (none))) = some r := H
  have A2 := Aside0.mk A20
  clear A20
  replace H := Option.bind_eq_some_iff.mp H
  obtain ⟨t253, A30, H⟩ := H
  replace H : (if 0 ≤ (t250.length : Int) then (if ((t250.length : Int) : Int).toNat ≤ 11728124029610 then ((some (List.replicate ((t250.length : Int) : Int).toNat [] : List (List Bool))).bind fun y256 => (dom_Dominates.l0 k t250 t253 y256 (y256.length : Int) 0)) else (none)) else (none)) = some r := H
  have A3 := Aside0.mk A30
  clear A30
  by_cases c4 : 0 ≤ (t250.length : Int)
  rotate_left
  · rw [if_neg c4] at H
    exact absurd H (by simp)
  rw [if_pos c4] at H
  have c4b0 := eq_true c4
  have c4b1 : decide (0 ≤ (t250.length : Int)) = true := decide_eq_true c4
  clear c4
  by_cases c5 : ((t250.length : Int) : Int).toNat ≤ 11728124029610
  rotate_left
  · rw [if_neg c5] at H
    exact absurd H (by simp)
  rw [if_pos c5] at H
  have c5b0 := eq_true c5
  have c5b1 : decide (((t250.length : Int) : Int).toNat ≤ 11728124029610) = true := decide_eq_true c5
  clear c5
  obtain ⟨y256, hy256⟩ : ∃ y_ : List (List Bool), y_ = (List.replicate ((t250.length : Int) : Int).toNat []) := ⟨_, rfl⟩
  replace H : (dom_Dominates.l0 k t250 t253 y256 (y256.length : Int) 0) = some r := by first | (rw [hy256]; with_reducible exact H) | (have H2_ := (Option.bind_some _ _).symm.trans H; rw [hy256]; with_reducible exact H2_) | exact H
  have Ny256 := Aside0.mk hy256
  clear hy256
  have H' := Aside0.mk H
  clear H
  go_enter Try.func17, Try.ntmps17
  try go_wp2_with (first | ((with_reducible refine gate_dst (N := 1) rfl ?_); refine box_event ?hg (N := 1) ?hd (cs := #[.int .i64 a0_0, .int .i64 a0_1, .slice A0_2 l0_2.length c0_2, .slice A0_3 l0_3.length c0_3]) (t := 25) ?hr ?_; (case hd => rfl); (case hg => rfl); (case hr => first | (go_simp; done) | (go_simp; rfl)); intro gb249 hg w6 hbox hb; have n0_ := Aside0.mk (below_step (lu HB.out) hb); have n1_ := Aside0.mk (hbox); have n2_ := Aside0.mk ((by rw [hg]; exact (below_size (lu HB.out)) : w.heap.size ≤ gb249)); have n3_ := Aside0.mk ((by rw [hg]; exact (below_size (lu HB.out)) : w.heap.size ≤ gb249)); clear HB; have HB := n0_; have BK249 := n1_; have GW249 := n2_; have GE249 := n3_; clear n0_ n1_ n2_ n3_; clear hb hbox hg))
  have n0_ := Aside0.mk (blk_drew BK249.out)
  have n1_ := Aside0.mk (below_drew1 HB.out)
  clear BK249
  clear HB
  have BK249 := n0_
  have HB := n1_
  clear n0_ n1_
  refine start_ (n := 6) (S := fun w' => w'.cell? ⟨gb249, 0, none⟩ = some (.int .i64 a0_0) ∧ w'.cell? ⟨gb249, 1, none⟩ = some (.int .i64 a0_1) ∧ w'.cell? ⟨gb249, 2, none⟩ = some (.slice A0_2 l0_2.length c0_2) ∧ w'.cell? ⟨gb249, 3, none⟩ = some (.slice A0_3 l0_3.length c0_3)) (ds := []) #[false, false, false, false, false, false] (by kernel_rfl) rfl rfl ⟨(blk_cell BK249.out 0).trans rfl, (blk_cell BK249.out 1).trans rfl, (blk_cell BK249.out 2).trans rfl, (blk_cell BK249.out 3).trans rfl⟩ (fun hHeld => ?_)
  generalize w6.drew = w7 at BK249 HB hHeld ⊢
  refine take_ (i := 0) (N := some 9) (v := ?_) (a' := ?_) #[true, false, false, false, false, false] rfl rfl (by kernel_rfl) (fun _ _ _ h => h) (Or.inl ⟨by rfl, ?_⟩) hHeld ?_ ?_
  rotate_left
  · rintro w' ⟨s0, s1, s2, s3⟩
    go_simp
    with_reducible rfl
  rotate_left
  · simp only [Act.put, List.setIfInBounds_toArray, List.set_cons_zero, List.set_cons_succ, i64_w, i32_w]
    rfl
  refine take_ (i := 2) (N := some 11) (v := ?_) (a' := ?_) #[true, false, true, false, false, false] rfl rfl (by kernel_rfl) (fun _ _ _ h => h) (Or.inl ⟨by rfl, ?_⟩) hHeld ?_ ?_
  rotate_left
  · rintro w' ⟨s0, s1, s2, s3⟩
    go_simp
    with_reducible rfl
  rotate_left
  · simp only [Act.put, List.setIfInBounds_toArray, List.set_cons_zero, List.set_cons_succ, i64_w, i32_w]
    rfl
  refine one_ (i := 1) (N := some 10) #[true, true, true, false, false, false] rfl rfl (by kernel_rfl) (by decide) (fun K hK => ?_)
  refine goes_ Try.func20 (by kernel_rfl) rfl #[.agg #[.int .i64 a0_0, .int .i64 a0_1, .slice A0_2 l0_2.length c0_2, .slice A0_3 l0_3.length c0_3]] (by rfl) rfl rfl (by (try simp only [List.map_toArray, List.map_cons, List.map_nil]); first | done | rfl) ?_
  with_reducible refine (dom_Nearest.calls k a0_0 a0_1 _ _ l0_2 _ _ l0_3 t250 _ ?side1 ?side2 ?side3 ?side4 A2.out).mono ?_
  (case side1 => exact cu (C_below HR0_2.out HB.out))
  (case side2 => exact HC0_2.out)
  (case side3 => exact cu (C_below HR0_3.out HB.out))
  (case side4 => exact HC0_3.out)
  rintro e w8 ⟨v251, rfl, ho0, hb⟩
  refine ⟨_, rfl, ?_⟩
  have n0_ := Aside0.mk (Kd.R_lower ho0 (below_size (lu HB.out)))
  have n1_ := Aside0.mk (blk_below (bu BK249.out) hb)
  have n2_ := Aside0.mk (below_step (lu HB.out) hb)
  clear BK249
  clear HB
  have HO252 := n0_
  have BK249 := n1_
  have HB := n2_
  clear n0_ n1_ n2_
  (try clear hb)
  (try clear hb2)
  (try clear hk)
  (try clear hi)
  (try clear ho0)
  refine hK.out _ _ ⟨(blk_cell BK249.out 0).trans rfl, (blk_cell BK249.out 1).trans rfl, (blk_cell BK249.out 2).trans rfl, (blk_cell BK249.out 3).trans rfl⟩ (fun hHeld => ?_)
  clear hK K
  refine norm_ (a' := ?_) ?_ ?_
  rotate_left
  · show Act.put _ (some 10) _ = _
    simp only [Act.put, List.setIfInBounds_toArray, List.set_cons_zero, List.set_cons_succ, i64_w, i32_w]
    rfl
  refine one_ (i := 3) (N := some 12) #[true, true, true, true, false, false] rfl rfl (by kernel_rfl) (by decide) (fun K hK => ?_)
  refine goes_ Try.func32 (by kernel_rfl) rfl #[.agg #[.int .i64 a0_0, .int .i64 a0_1, .slice A0_2 l0_2.length c0_2, .slice A0_3 l0_3.length c0_3]] (by rfl) rfl rfl (by (try simp only [List.map_toArray, List.map_cons, List.map_nil]); first | done | rfl) ?_
  with_reducible refine (graph_Reached.calls k a0_0 a0_1 _ _ l0_2 _ _ l0_3 t253 _ ?side1 ?side2 ?side3 ?side4 A3.out).mono ?_
  (case side1 => exact cu (C_below HR0_2.out HB.out))
  (case side2 => exact HC0_2.out)
  (case side3 => exact cu (C_below HR0_3.out HB.out))
  (case side4 => exact HC0_3.out)
  rintro e w9 ⟨v254, rfl, ho0, hb⟩
  refine ⟨_, rfl, ?_⟩
  have n0_ := Aside0.mk (Kd.R_below (ru HO252.out) hb)
  have n1_ := Aside0.mk (Kd.R_lower ho0 (below_size (lu HB.out)))
  have n2_ := Aside0.mk (blk_below (bu BK249.out) hb)
  have n3_ := Aside0.mk (below_step (lu HB.out) hb)
  clear HO252
  clear BK249
  clear HB
  have HO252 := n0_
  have HO255 := n1_
  have BK249 := n2_
  have HB := n3_
  clear n0_ n1_ n2_ n3_
  (try clear hb)
  (try clear hb2)
  (try clear hk)
  (try clear hi)
  (try clear ho0)
  refine hK.out _ _ ⟨(blk_cell BK249.out 0).trans rfl, (blk_cell BK249.out 1).trans rfl, (blk_cell BK249.out 2).trans rfl, (blk_cell BK249.out 3).trans rfl⟩ (fun hHeld => ?_)
  clear hK K
  refine norm_ (a' := ?_) ?_ ?_
  rotate_left
  · show Act.put _ (some 12) _ = _
    simp only [Act.put, List.setIfInBounds_toArray, List.set_cons_zero, List.set_cons_succ, i64_w, i32_w]
    rfl
  refine pure_ (i := 4) (N := some 3) (v := ?_) (a' := ?_) #[true, true, true, true, true, false] rfl rfl (by kernel_rfl) (fun _ _ _ h => h) (Or.inl ⟨by rfl, ?_⟩) ?_ ?_
  rotate_left
  · intro w'
    go_simp
    with_reducible rfl
  rotate_left
  · simp only [Act.put, List.setIfInBounds_toArray, List.set_cons_zero, List.set_cons_succ, i64_w, i32_w]
    rfl
  refine pure_ (i := 5) (N := some 4) (v := ?_) (a' := ?_) #[true, true, true, true, true, true] rfl rfl (by kernel_rfl) (fun _ _ _ h => h) (Or.inl ⟨by rfl, ?_⟩) ?_ ?_
  rotate_left
  · intro w'
    go_simp
    with_reducible rfl
  rotate_left
  · simp only [Act.put, List.setIfInBounds_toArray, List.set_cons_zero, List.set_cons_succ, i64_w, i32_w]
    rfl
  refine done_ (by kernel_rfl) ?_
  obtain ⟨Ao10, co10, eo10⟩ := Kd.R_slice HO252.out
  subst eo10
  try go_wp2_with (first | ((with_reducible refine gate_dst (N := 15) rfl ?_); refine Kd.S_make (Kd.slice 4 Kd.bool) _ 34 rfl (N := 15) rfl 30 _ _ rfl (t250.length : Int) rfl rfl Try.underlying30 (.slice none 0 0) 24 info34 rfl (by decide) (by omega) [] (ok := fun _ => True) (okp := fun _ => True) ⟨_, rfl, Kd.R_nil _ _ _ _ _⟩ (fun _ hk => hk) trivial (of_decide_eq_true (by with_reducible assumption)) (Nat.le_trans (Nat.mul_le_mul_right _ (of_decide_eq_true (by with_reducible assumption) : (t250.length : Int).toNat ≤ 11728124029610)) (by omega)) (Below.refl _ _) (Nat.le_refl _) ?_; intro v257 w11 ho12 hb hg_ hnew_; clear hg_ hnew_; rw [← Ny256.out] at ho12; have n0_ := Aside0.mk (Kd.R_below (ru HO252.out) hb); have n1_ := Aside0.mk (Kd.R_below (ru HO255.out) hb); have n2_ := Aside0.mk (Kd.S_lower (Kd.S_new' ho12 (R_lt (ru HO255.out))) (below_size (lu HB.out))); have n3_ := Aside0.mk (blk_below (bu BK249.out) hb); have n4_ := Aside0.mk (below_step (lu HB.out) hb); clear HO252; clear HO255; clear BK249; clear HB; have HO252 := n0_; have HO255 := n1_; have HO258 := n2_; have BK249 := n3_; have HB := n4_; clear n0_ n1_ n2_ n3_ n4_; clear hb ho12; obtain ⟨Ao13, co13, eo13⟩ := Kd.S_slice HO258.out; subst eo13))
  go_loopg [18] k (fun kq v18 w' => ∃ (x5_1 : List (List Bool)) (x18_1 : Int), v18 = .int .i64 x18_1 ∧ Aside0 (dom_Dominates.l0 kq t250 t253 x5_1 (y256.length : Int) x18_1 = some r) ∧ Aside0 (kq ≤ k) ∧ Aside0 (Kd.R (Kd.int .i64) 3 w' w.heap.size (fun _ => True) (.slice Ao10 t250.length co10) t250) ∧ Aside0 (Kd.R Kd.bool 4 w' w.heap.size (fun _ => True) v254 t253) ∧ Aside0 (Kd.S (Kd.slice 4 Kd.bool) 34 w' w.heap.size (fun k_ => some k_ ≠ (v254 : Value).ownBlock) (.slice Ao13 y256.length co13) x5_1) ∧ Aside0 (w'.heap[gb249]? = some (.cells #[.int .i64 a0_0, .int .i64 a0_1, (.slice A0_2 l0_2.length c0_2), (.slice A0_3 l0_3.length c0_3)] 25 (0, 0))) ∧ Aside0 (Below w.heap.size w w'))
  case atStart => exact ⟨(y256), (0), (by first | rfl | (simp; done) | (simp [*]; done)), H', ⟨Nat.le_refl _⟩, ⟨ru HO252.out⟩, ⟨ru HO255.out⟩, ⟨su (S_mono HO258.out (fun _ hk => hk.2))⟩, ⟨bu BK249.out⟩, ⟨lu HB.out⟩⟩
  clear H'
  try clear c1
  try clear c2
  try clear p2
  try clear c3
  try clear c4
  try clear c4b0
  try clear c4b1
  try clear c5
  try clear c5b0
  try clear c5b1
  obtain ⟨x5_1, x18_1, rfl, HA, HK1, HO_3, HO_4, HO_5, BK249, HB⟩ := hrel
  have hl5_1 := (S_reads' HO_5.out).1
  rw [hl5_1] at HO_5
  (try simp only [hl5_1])
  (try simp only [hl5_1] at BK249)
  (try simp only [hl5_1] at HO_3)
  (try simp only [hl5_1] at HO_4)
  rcases gk with _ | k1
  · exact absurd HA.out (by simp [dom_Dominates.l0])
  have H := HA.out
  clear HA
  simp only [dom_Dominates.l0] at H
  by_cases c14 : x18_1 < (y256.length : Int)
  · rw [if_pos c14] at H
    have c14b0 : decide (x18_1 < (y256.length : Int)) = true := decide_eq_true c14
    have c14b0l := c14b0
    (try simp only [hl5_1] at c14b0l)
    clear c14
    by_cases c15 : 0 ≤ (t250.length : Int)
    rotate_left
    · rw [if_neg c15] at H
      exact absurd H (by simp)
    rw [if_pos c15] at H
    have c15b0 := eq_true c15
    have c15b1 : decide (0 ≤ (t250.length : Int)) = true := decide_eq_true c15
    clear c15
    by_cases c16 : ((t250.length : Int) : Int).toNat ≤ 281474976710656
    rotate_left
    · rw [if_neg c16] at H
      exact absurd H (by simp)
    rw [if_pos c16] at H
    have c16b0 := eq_true c16
    have c16b1 : decide (((t250.length : Int) : Int).toNat ≤ 281474976710656) = true := decide_eq_true c16
    clear c16
    obtain ⟨y259, hy259⟩ : ∃ y_ : List Bool, y_ = (List.replicate ((t250.length : Int) : Int).toNat false) := ⟨_, rfl⟩
    replace H : (if 0 ≤ x18_1 then (if x18_1 < (x5_1.length : Int) then (dom_Dominates.l0 k1 t250 t253 (x5_1.set (x18_1 : Int).toNat y259) (y256.length : Int) (wrap64 (x18_1 + 1))) else (none)) else (none)) = some r := by first | (rw [hy259]; with_reducible exact H) | (have H2_ := (Option.bind_some _ _).symm.trans H; rw [hy259]; with_reducible exact H2_) | exact H
    have Ny259 := Aside0.mk hy259
    clear hy259
    by_cases c17 : 0 ≤ x18_1
    rotate_left
    · rw [if_neg c17] at H
      exact absurd H (by simp)
    rw [if_pos c17] at H
    have c17b0 : decide (0 ≤ x18_1) = true := decide_eq_true c17
    clear c17
    by_cases c18 : x18_1 < (x5_1.length : Int)
    rotate_left
    · rw [if_neg c18] at H
      exact absurd H (by simp)
    rw [if_pos c18] at H
    have c18b0 : decide (x18_1 < (x5_1.length : Int)) = true := decide_eq_true c18
    have c18b0l := c18b0
    (try simp only [hl5_1] at c18b0l)
    clear c18
    obtain ⟨y262, hy262⟩ : ∃ y_ : List (List Bool), y_ = (x5_1.set (x18_1 : Int).toNat y259) := ⟨_, rfl⟩
    replace H : (dom_Dominates.l0 k1 t250 t253 y262 (y256.length : Int) (wrap64 (x18_1 + 1))) = some r := by first | (rw [hy262]; with_reducible exact H) | (have H2_ := (Option.bind_some _ _).symm.trans H; rw [hy262]; with_reducible exact H2_) | exact H
    have Ny262 := Aside0.mk hy262
    clear hy262
    have H' := Aside0.mk H
    clear H
    go_wp2_with (first | ((with_reducible refine gate_dst (N := 25) rfl ?_); refine Kd.R_make Kd.bool _ 4 rfl (N := 25) rfl 34 _ _ rfl (t250.length : Int) rfl rfl Try.underlying34 (.bool false) 1 info4 rfl (by decide) (by omega) false (ok := fun _ => True) (okp := fun _ => True) rfl (fun _ hk => hk) trivial (of_decide_eq_true (by with_reducible assumption)) (Nat.le_trans (Nat.mul_le_mul_right _ (of_decide_eq_true (by with_reducible assumption) : (t250.length : Int).toNat ≤ 281474976710656)) (by omega)) (Below.refl _ _) (Nat.le_refl _) ?_; intro v260 w20 ho21 hb hg_ hnew_; clear hg_ hnew_; rw [← Ny259.out] at ho21; obtain ⟨_, _, hvw_, _, _⟩ := Kd.R_reads ho21; have n0_ := Aside0.mk (Kd.R_below (ru HO_3.out) hb); have n1_ := Aside0.mk (R_elder' (ru HO_4.out) (R_base ho21) hb); have n2_ := Aside0.mk (Kd.S_elder' (su HO_5.out) (R_base ho21) hb); have n3_ := Aside0.mk (Kd.R_lower (R_new' ho21 (R_lt (ru HO_4.out))) (below_size (lu HB.out))); have n4_ := Aside0.mk (blk_below (bu BK249.out) hb); have n5_ := Aside0.mk (below_step (lu HB.out) hb); clear HO_3; clear HO_4; clear HO_5; clear BK249; clear HB; have HO_3 := n0_; have HO_4 := n1_; have HO_5 := n2_; have HO261 := n3_; have BK249 := n4_; have HB := n5_; clear n0_ n1_ n2_ n3_ n4_ n5_; clear hb ho21; have p19 : 0 ≤ (x18_1 : Int) := of_decide_eq_true (by with_reducible assumption); have q19 : (x18_1 : Int) < ((x5_1.length : Int) : Int) := of_decide_eq_true (by with_reducible assumption); obtain ⟨go19, co19, eo19, gb19, gl19, cl19, HG19⟩ := Kd.S_form HO_5.out (by omega); (first | cases eo19 | (injection eo19 with ea_ en_ ec_; (first | subst ea_ | (injection ea_ with ea_; subst ea_)); subst ec_; clear en_)); have GB19 := Aside0.mk gb19; have GG19 := Aside0.mk HG19; clear gb19 gl19 HG19; obtain ⟨_, ce19, hcl19, hM19, hcc19, hfr19, _, _⟩ := Kd.S_elem HO_5.out [] (x18_1 : Int) p19 q19; obtain ⟨ve19_0, rfl, ge19_0⟩ := hM19; have hx19_0 := hcc19 0 _ rfl; have hf19_0 := hfr19 0; (try simp only [show ((Kd.slice 4 Kd.bool)).sz = 1 from rfl, Nat.mul_one, Nat.add_zero] at hx19_0); (try simp only [show ((Kd.slice 4 Kd.bool)).sz = 1 from rfl, Nat.mul_one, Nat.add_zero] at hf19_0); clear hcl19 hcc19 hfr19; (try clear hM19); replace p19 := eq_true p19; replace q19 := eq_true q19; have HX22 := Aside0.mk (show Kd.S (Kd.slice 4 Kd.bool) 34 w20 w.heap.size (fun k_ => ((fun k_ => some k_ ≠ (v254 : Value).ownBlock)) k_ ∧ ¬ ((fun k_ => some k_ = (v260 : Value).ownBlock)) k_) (.slice (some ⟨go19, 0, none⟩) x5_1.length co13) x5_1 from (su (S_mono HO_5.out (fun k_ hk => ⟨hk.1, fun e_ => hk.2 e_⟩)))); obtain ⟨oki22, ce22, hcl22, hM22, hcc22, hfr22, hoki22, hH22⟩ := Kd.S_elem HX22.out [] (x18_1 : Int) (of_decide_eq_true (by with_reducible assumption)) (by have h_ : (x18_1 : Int) < ((x5_1.length : Int) : Int) := of_decide_eq_true (by with_reducible assumption); first | exact h_ | (have e_ := (S_reads' HO_5.out).1; omega) | simpa using h_); obtain ⟨ve22_0, rfl, ge22_0⟩ := hM22; have HP22 := Kd.S_seg hH22 (of_decide_eq_true (by with_reducible assumption)) (by have h_ : (x18_1 : Int) < ((x5_1.length : Int) : Int) := of_decide_eq_true (by with_reducible assumption); first | exact h_ | (have e_ := (S_reads' HO_5.out).1; omega) | simpa using h_) (seg := [v260]) (j := 0) (show 1 ≤ 1 from by decide) (x' := y259) (Kd.M_row (R_mono (Kd.R_tight rfl (R_mono (ok' := fun k_ => ((fun k_ => some k_ ≠ (v254 : Value).ownBlock)) k_ ∧ k_ ≠ go19) (Kd.R_apart' (HO261.out) (Kd.S_typed HO_5.out) (by decide)) (fun k_ hk => ⟨hk.1.2, fun e_ => (hk.2) (by rw [e_]; rfl)⟩))) (fun _ h_ => Or.inr (h_)))) (fun _ hk => hk) (fun k_ hk_ => ((R_mono (ok' := fun k_ => ((fun k_ => some k_ ≠ (v254 : Value).ownBlock)) k_ ∧ k_ ≠ go19) (Kd.R_apart' (HO261.out) (Kd.S_typed HO_5.out) (by decide)) (fun k_ hk => ⟨hk.1.2, fun e_ => (hk.2) (by rw [e_]; rfl)⟩))).1 k_ hk_.symm); have hx22_0 := hcc22 0 _ rfl; (try simp only [show ((Kd.slice 4 Kd.bool)).sz = 1 from rfl, Nat.mul_one, Nat.add_zero] at hx22_0); have hf22_0 := hfr22 0; (try simp only [show ((Kd.slice 4 Kd.bool)).sz = 1 from rfl, Nat.mul_one, Nat.add_zero] at hf22_0); clear hcl22 hcc22 hfr22; (try clear hM22); clear hoki22 hH22; (try simp only [show ((Kd.slice 4 Kd.bool)).sz = 1 from rfl, Nat.mul_one, Nat.add_zero] at HP22)) | ((with_reducible refine gate_store (t := 34) (p := 26) rfl ?_); refine store_event (t := 34) (p := 26) (v := ?vo_w23) (w1 := (w20.setCell ⟨go19, (x18_1 : Int).toNat, none⟩ (v260))) ?hg ?ho ?hn ?hr ?_; (case ho => rfl); (case hg => rfl); (case hn => rfl); (case hr => first | (go_simp; done) | (go_simp; rfl) | (rw [hvw_]; go_simp; done) | (rw [hvw_]; go_simp; rfl)); intro w23 hw; have hg : w20.grownBy w23 (some go19) := (by rw [hw]; exact HP22.2); have hp_ : Kd.S (Kd.slice 4 Kd.bool) 34 w23 w.heap.size (fun k_ => some k_ ≠ (v254 : Value).ownBlock) (.slice (some ⟨go19, 0, none⟩) x5_1.length co13) y262 := (by rw [hw, Ny262.out]; exact HP22.1); clear HP22; have n0_ := Aside0.mk (Kd.R_over' (v := (.slice (some ⟨go19, 0, none⟩) x5_1.length co13)) (ru HO_3.out) (Kd.S_typed HO_5.out) (by decide) hg); have n1_ := Aside0.mk (Kd.R_over' (v := (.slice (some ⟨go19, 0, none⟩) x5_1.length co13)) (ru HO_4.out) (Kd.S_typed HO_5.out) (by decide) hg); have n2_ := Aside0.mk (hp_); have n3_ := Aside0.mk (blk_grown (bu BK249.out) hg (Kd.S_ne HO_5.out BK249.out (by decide))); have n4_ := Aside0.mk ((by rw [hw]; exact below_set (HB.out) GB19.out : Below w.heap.size w w23)); clear HO_3; clear HO_4; clear HO_5; clear BK249; clear HB; clear HO261; have HO_3 := n0_; have HO_4 := n1_; have HO_5 := n2_; have BK249 := n3_; have HB := n4_; clear n0_ n1_ n2_ n3_ n4_; clear hg hw hp_))
    (try simp only [← hl5_1])
    go_roundg k1
    case measure => have := HK1.out; omega
    case rel => exact ⟨(y262), (wrap64 (x18_1 + 1)), (by first | rfl | (simp; done) | (simp [*]; done)), H', ⟨by have := HK1.out; omega⟩, ⟨by (try simp only [hl5_1]); (with_reducible repeat (first | apply R_alloc | apply R_drewN | apply R_drew)); exact HO_3.out⟩, ⟨by (try simp only [hl5_1]); (with_reducible repeat (first | apply R_alloc | apply R_drewN | apply R_drew)); exact R_mono HO_4.out (fun _ hk => trivial)⟩, ⟨by (try simp only [hl5_1]); (with_reducible repeat (first | apply S_alloc | apply S_drewN | apply S_drew)); exact HO_5.out⟩, ⟨by (try simp only [hl5_1]); (with_reducible repeat (first | refine blk_drewN ?_ _ | refine blk_drew ?_ | refine blk_alloc ?_ _)); exact BK249.out⟩, ⟨lu HB.out⟩⟩
  rw [if_neg c14] at H
  have c14b0 : decide (x18_1 < (y256.length : Int)) = false := decide_eq_false c14
  (try simp only [hl5_1] at c14b0)
  clear c14
  have H' := Aside0.mk H
  clear H
  go_wp2
  go_loopg [30] k1 (fun kq v30 w' => ∃ (x4_2 : List Bool) (x5_2 : List (List Bool)) (x30_2 : Int), v30 = .int .i64 x30_2 ∧ Aside0 (dom_Dominates.l1 kq t250 x4_2 x5_2 (x5_1.length : Int) x30_2 = some r) ∧ Aside0 (kq ≤ k1) ∧ Aside0 (Kd.R (Kd.int .i64) 3 w' w.heap.size (fun _ => True) (.slice Ao10 t250.length co10) t250) ∧ Aside0 (Kd.R Kd.bool 4 w' w.heap.size (fun _ => True) v254 x4_2) ∧ Aside0 (Kd.S (Kd.slice 4 Kd.bool) 34 w' w.heap.size (fun k_ => some k_ ≠ (v254 : Value).ownBlock) (.slice Ao13 x5_1.length co13) x5_2) ∧ Aside0 (w'.heap[gb249]? = some (.cells #[.int .i64 a0_0, .int .i64 a0_1, (.slice A0_2 l0_2.length c0_2), (.slice A0_3 l0_3.length c0_3)] 25 (0, 0))) ∧ Aside0 (Below w.heap.size w w'))
  case atStart => exact ⟨(t253), (x5_1), (0), (by first | rfl | (simp; done) | (simp [*]; done)), H', ⟨Nat.le_refl _⟩, ⟨by (try simp only [hl5_1]); (with_reducible repeat (first | apply R_alloc | apply R_drewN | apply R_drew)); exact HO_3.out⟩, ⟨by (try simp only [hl5_1]); (with_reducible repeat (first | apply R_alloc | apply R_drewN | apply R_drew)); exact HO_4.out⟩, ⟨by (try simp only [hl5_1]); (with_reducible repeat (first | apply S_alloc | apply S_drewN | apply S_drew)); exact HO_5.out⟩, ⟨by (try simp only [hl5_1]); (with_reducible repeat (first | refine blk_drewN ?_ _ | refine blk_drew ?_ | refine blk_alloc ?_ _)); exact BK249.out⟩, ⟨lu HB.out⟩⟩
  clear H'
  try clear c1
  try clear p1
  try clear q1
  try clear hx1
  try clear hf1
  try clear c2
  try clear p2
  try clear hx2
  try clear hf2
  try clear c3
  try clear c4
  try clear c4b0
  try clear c4b1
  try clear c5
  try clear c5b0
  try clear c5b1
  try clear p6
  try clear c14
  try clear c14b0
  try clear c15
  try clear c15b0
  try clear c15b1
  try clear c16
  try clear c16b0
  try clear c16b1
  try clear c17
  try clear c17b0
  try clear c18
  try clear c18b0
  try clear c19
  try clear p19
  try clear q19
  try clear hx19
  try clear hf19
  try clear c20
  try clear c22
  try clear hx22
  try clear hf22
  try clear hx19_0
  try clear hx22_0
  try clear p19
  try clear p2
  try clear q19
  obtain ⟨x4_2, x5_2, x30_2, rfl, HA, HK2, HO_3, HO_4, HO_5, BK249, HB⟩ := hrel
  have hl5_2 := (S_reads' HO_5.out).1
  rw [hl5_2] at HO_5
  (try simp only [hl5_2])
  (try simp only [hl5_2] at BK249)
  (try simp only [hl5_2] at HO_3)
  (try simp only [hl5_2] at HO_4)
  rcases gk with _ | k2
  · exact absurd HA.out (by simp [dom_Dominates.l1])
  have H := HA.out
  clear HA
  simp only [dom_Dominates.l1] at H
  by_cases c24 : x30_2 < (x5_1.length : Int)
  rotate_left
  · rw [if_neg c24] at H
    have c24b0 : decide (x30_2 < (x5_1.length : Int)) = false := decide_eq_false c24
    (try simp only [hl5_1, hl5_2] at c24b0)
    clear c24
    obtain rfl := Option.some.inj H
    go_wp2
    go_ret
    exact ⟨_, by first | rfl | (simp [errW_none, errW_some] <;> rfl) | (simp [*, errW_none, errW_some] <;> rfl), su (S_mono HO_5.out (fun _ hk => trivial)), lu HB.out⟩
  rw [if_pos c24] at H
  have c24b0 : decide (x30_2 < (x5_1.length : Int)) = true := decide_eq_true c24
  have c24b0l := c24b0
  (try simp only [hl5_1, hl5_2] at c24b0l)
  clear c24
  have H' := Aside0.mk H
  clear H
  go_wp2
  go_loopg [8] k2 (fun kq v8 w' => ∃ (x4_3 : List Bool) (x5_3 : List (List Bool)) (x8_3 : Int), v8 = .int .i64 x8_3 ∧ Aside0 (dom_Dominates.l2 kq t250 x4_3 x5_3 x30_2 x8_3 (x5_1.length : Int) x30_2 = some r) ∧ Aside0 (kq ≤ k2) ∧ Aside0 (Kd.R (Kd.int .i64) 3 w' w.heap.size (fun _ => True) (.slice Ao10 t250.length co10) t250) ∧ Aside0 (Kd.R Kd.bool 4 w' w.heap.size (fun _ => True) v254 x4_3) ∧ Aside0 (Kd.S (Kd.slice 4 Kd.bool) 34 w' w.heap.size (fun k_ => some k_ ≠ (v254 : Value).ownBlock) (.slice Ao13 x5_2.length co13) x5_3) ∧ Aside0 (w'.heap[gb249]? = some (.cells #[.int .i64 a0_0, .int .i64 a0_1, (.slice A0_2 l0_2.length c0_2), (.slice A0_3 l0_3.length c0_3)] 25 (0, 0))) ∧ Aside0 (Below w.heap.size w w'))
  case atStart => exact ⟨(x4_2), (x5_2), (x30_2), (by first | rfl | (simp; done) | (simp [*]; done)), H', ⟨Nat.le_refl _⟩, ⟨by (try simp only [hl5_1]); (try simp only [hl5_2]); (with_reducible repeat (first | apply R_alloc | apply R_drewN | apply R_drew)); exact HO_3.out⟩, ⟨by (try simp only [hl5_1]); (try simp only [hl5_2]); (with_reducible repeat (first | apply R_alloc | apply R_drewN | apply R_drew)); exact HO_4.out⟩, ⟨by (try simp only [hl5_1]); (try simp only [hl5_2]); (with_reducible repeat (first | apply S_alloc | apply S_drewN | apply S_drew)); exact HO_5.out⟩, ⟨by (try simp only [hl5_1]); (try simp only [hl5_2]); (with_reducible repeat (first | refine blk_drewN ?_ _ | refine blk_drew ?_ | refine blk_alloc ?_ _)); exact BK249.out⟩, ⟨lu HB.out⟩⟩
  clear H'
  try clear c1
  try clear p1
  try clear q1
  try clear hx1
  try clear hf1
  try clear c2
  try clear p2
  try clear hx2
  try clear hf2
  try clear c3
  try clear c4
  try clear c4b0
  try clear c4b1
  try clear c5
  try clear c5b0
  try clear c5b1
  try clear p6
  try clear c14
  try clear c14b0
  try clear c15
  try clear c15b0
  try clear c15b1
  try clear c16
  try clear c16b0
  try clear c16b1
  try clear c17
  try clear c17b0
  try clear c18
  try clear c18b0
  try clear c19
  try clear p19
  try clear q19
  try clear hx19
  try clear hf19
  try clear c20
  try clear c22
  try clear hx22
  try clear hf22
  try clear c24
  try clear c24b0
  try clear hx19_0
  try clear hx22_0
  try clear p1
  try clear p19
  try clear p2
  try clear p6
  try clear q1
  try clear q19
  obtain ⟨x4_3, x5_3, x8_3, rfl, HA, HK3, HO_3, HO_4, HO_5, BK249, HB⟩ := hrel
  have hl5_3 := (S_reads' HO_5.out).1
  rw [hl5_3] at HO_5
  (try simp only [hl5_3])
  (try simp only [hl5_3] at BK249)
  (try simp only [hl5_3] at HO_3)
  (try simp only [hl5_3] at HO_4)
  rcases gk with _ | k3
  · exact absurd HA.out (by simp [dom_Dominates.l2])
  have H := HA.out
  clear HA
  simp only [dom_Dominates.l2] at H
  by_cases c25 : 0 ≤ x30_2
  rotate_left
  · rw [if_neg c25] at H
    exact absurd H (by simp)
  rw [if_pos c25] at H
  have c25b0 : decide (0 ≤ x30_2) = true := decide_eq_true c25
  clear c25
  by_cases c26 : x30_2 < (x4_3.length : Int)
  rotate_left
  · rw [if_neg c26] at H
    exact absurd H (by simp)
  rw [if_pos c26] at H
  have c26b0 : decide (x30_2 < (x4_3.length : Int)) = true := decide_eq_true c26
  have c26b0l := c26b0
  (try simp only [hl5_1, hl5_2, hl5_3] at c26b0l)
  clear c26
  obtain ⟨bq27, hbq27⟩ : ∃ b_ : Bool, b_ = (rdOf false x4_3 x30_2) := ⟨_, rfl⟩
  replace H : (if bq27 = true then (if x8_3 ≥ 0 then (if 0 ≤ x8_3 then (if x8_3 < (x5_3.length : Int) then (if x30_2 < ((rd_L11 x5_3 x8_3).length : Int) then (if x8_3 < (t250.length : Int) then (dom_Dominates.l2 k3 t250 x4_3 (x5_3.set (x8_3 : Int).toNat ((rd_L11 x5_3 x8_3).set (x30_2 : Int).toNat true)) x30_2 (rd t250 x8_3) (x5_1.length : Int) x30_2) else (none)) else (none)) else (none)) else (none)) else (dom_Dominates.l1 k3 t250 x4_3 x5_3 (x5_1.length : Int) (wrap64 (x30_2 + 1)))) else (dom_Dominates.l1 k3 t250 x4_3 x5_3 (x5_1.length : Int) (wrap64 (x30_2 + 1)))) = some r := by rw [← hbq27] at H; exact H
  have Nbq27 := Aside0.mk hbq27
  clear hbq27
  by_cases c28 : bq27 = true
  · subst c28
    have H1 : (if x8_3 ≥ 0 then (if 0 ≤ x8_3 then (if x8_3 < (x5_3.length : Int) then (if x30_2 < ((rd_L11 x5_3 x8_3).length : Int) then (if x8_3 < (t250.length : Int) then (dom_Dominates.l2 k3 t250 x4_3 (x5_3.set (x8_3 : Int).toNat ((rd_L11 x5_3 x8_3).set (x30_2 : Int).toNat true)) x30_2 (rd t250 x8_3) (x5_1.length : Int) x30_2) else (none)) else (none)) else (none)) else (none)) else (dom_Dominates.l1 k3 t250 x4_3 x5_3 (x5_1.length : Int) (wrap64 (x30_2 + 1)))) = some r := by rw [if_pos rfl] at H; exact H
    clear H
    have H := H1
    clear H1
    by_cases c29 : x8_3 ≥ 0
    · rw [if_pos c29] at H
      have c29b0 : decide (0 ≤ x8_3) = true := decide_eq_true c29
      clear c29
      by_cases c30 : 0 ≤ x8_3
      rotate_left
      · rw [if_neg c30] at H
        exact absurd H (by simp)
      rw [if_pos c30] at H
      have c30b0 : decide (0 ≤ x8_3) = true := decide_eq_true c30
      clear c30
      by_cases c31 : x8_3 < (x5_3.length : Int)
      rotate_left
      · rw [if_neg c31] at H
        exact absurd H (by simp)
      rw [if_pos c31] at H
      have c31b0 : decide (x8_3 < (x5_3.length : Int)) = true := decide_eq_true c31
      have c31b0l := c31b0
      (try simp only [hl5_1, hl5_2, hl5_3] at c31b0l)
      clear c31
      by_cases c32 : x30_2 < ((rd_L11 x5_3 x8_3).length : Int)
      rotate_left
      · rw [if_neg c32] at H
        exact absurd H (by simp)
      rw [if_pos c32] at H
      have c32b0 : decide (x30_2 < ((rd_L11 x5_3 x8_3).length : Int)) = true := decide_eq_true c32
      have c32b0l := c32b0
      (try simp only [hl5_1, hl5_2, hl5_3] at c32b0l)
      clear c32
      obtain ⟨y265, hy265⟩ : ∃ y_ : List Bool, y_ = ((rd_L11 x5_3 x8_3).set (x30_2 : Int).toNat true) := ⟨_, rfl⟩
      replace H : (if x8_3 < (t250.length : Int) then (dom_Dominates.l2 k3 t250 x4_3 (x5_3.set (x8_3 : Int).toNat y265) x30_2 (rd t250 x8_3) (x5_1.length : Int) x30_2) else (none)) = some r := by first | (rw [hy265]; with_reducible exact H) | (have H2_ := (Option.bind_some _ _).symm.trans H; rw [hy265]; with_reducible exact H2_) | exact H
      have Ny265 := Aside0.mk hy265
      clear hy265
      obtain ⟨y267, hy267⟩ : ∃ y_ : List (List Bool), y_ = (x5_3.set (x8_3 : Int).toNat y265) := ⟨_, rfl⟩
      replace H : (if x8_3 < (t250.length : Int) then (dom_Dominates.l2 k3 t250 x4_3 y267 x30_2 (rd t250 x8_3) (x5_1.length : Int) x30_2) else (none)) = some r := by first | (rw [hy267]; with_reducible exact H) | (have H2_ := (Option.bind_some _ _).symm.trans H; rw [hy267]; with_reducible exact H2_) | exact H
      have Ny267 := Aside0.mk hy267
      clear hy267
      by_cases c34 : x8_3 < (t250.length : Int)
      rotate_left
      · rw [if_neg c34] at H
        exact absurd H (by simp)
      rw [if_pos c34] at H
      have c34b0 : decide (x8_3 < (t250.length : Int)) = true := decide_eq_true c34
      have c34b0l := c34b0
      (try simp only [hl5_1, hl5_2, hl5_3] at c34b0l)
      clear c34
      have H' := Aside0.mk H
      clear H
      obtain ⟨Ao35, co35, eo35⟩ := Kd.R_slice HO_4.out
      subst eo35
      have p263 : 0 ≤ (x30_2 : Int) := of_decide_eq_true (by with_reducible assumption)
      have q263 : x30_2 < (x4_3.length : Int) := of_decide_eq_true (by with_reducible assumption)
      obtain ⟨ad263, e263, hx263_0⟩ := Kd.at_bool (R_reads' HO_4.out).2.2 x30_2 p263 q263
      (try rw [← Nbq27.out] at hx263_0)
      cases e263
      replace p263 := eq_true p263
      replace q263 := eq_true q263
      have p264 : 0 ≤ (x8_3 : Int) := of_decide_eq_true (by with_reducible assumption)
      have q264 : x8_3 < (x5_3.length : Int) := of_decide_eq_true (by with_reducible assumption)
      obtain ⟨ad264, A264_0, c264_0, e264, hx264_0, hl264_0, hi264_0⟩ := at_L11 (S_reads' HO_5.out).2.2 x8_3 p264 q264
      cases e264
      obtain ⟨ce264, hce264, hMe264, hcc264⟩ := S_get HO_5.out [] x8_3 p264 (by first | exact q264 | exact of_decide_eq_true (by with_reducible assumption) | (have e_ := (S_reads' HO_5.out).1; omega))
      obtain ⟨ve264_0, rfl, ge264_0⟩ := hMe264
      have hv264_0 := hcc264 0 _ rfl
      rw [Nat.add_zero, show ((Kd.slice 4 Kd.bool)).sz = 1 from rfl, Nat.mul_one] at hv264_0
      replace hv264_0 := Option.some.inj (hv264_0.symm.trans hx264_0)
      rw [hv264_0] at ge264_0
      have HL264_0 := Aside0.mk (show Kd.R Kd.bool 4 _ _ _ _ (rd_L11 x5_3 x8_3) from ge264_0)
      clear hv264_0 ge264_0
      have HX264_0 := Aside0.mk hx264_0
      clear hcc264 hce264
      have HR264_0 := Aside0.mk hi264_0
      have HC264_0 := Aside0.mk hl264_0
      clear hi264_0 hl264_0
      replace p264 := eq_true p264
      replace q264 := eq_true q264
      have p33 : 0 ≤ (x30_2 : Int) := of_decide_eq_true (by with_reducible assumption)
      have q33 : (x30_2 : Int) < (((rd_L11 x5_3 x8_3).length : Int) : Int) := of_decide_eq_true (by with_reducible assumption)
      obtain ⟨go33, co33, eo33, gb33, gl33, cl33, HG33⟩ := Kd.R_form HL264_0.out (by omega)
      (first | cases eo33 | (injection eo33 with ea_ en_ ec_; (first | subst ea_ | (injection ea_ with ea_; subst ea_)); subst ec_; clear en_))
      have GB33 := Aside0.mk gb33
      have GG33 := Aside0.mk HG33
      clear gb33 gl33 HG33
      obtain ⟨hx33_0, hf33_0⟩ := Kd.R_celln false HL264_0.out (x30_2 : Int) p33 q33
      replace p33 := eq_true p33
      replace q33 := eq_true q33
      have hq36 : (x8_3 : Int) < (x5_3.length : Int) := (by have h_ : (x8_3 : Int) < ((x5_3.length : Int) : Int) := of_decide_eq_true (by with_reducible assumption); first | exact h_ | (have e_ := (S_reads' HO_5.out).1; omega) | simpa only [List.length_set, List.length_set] using h_)
      obtain ⟨oki36, ce36, hcl36, hM36, hcc36, hok36, hbk36⟩ := Kd.S_borrow HO_5.out [] (x8_3 : Int) (of_decide_eq_true (by with_reducible assumption)) hq36
      obtain ⟨ve36_0, rfl, ge36_0⟩ := hM36
      have hv36 := hcc36 0 _ rfl
      rw [Nat.add_zero, show ((Kd.slice 4 Kd.bool)).sz = 1 from rfl, Nat.mul_one] at hv36
      replace hv36 := Option.some.inj (hv36.symm.trans HX264_0.out)
      subst hv36
      clear hcc36 hcl36
      replace ge36_0 := (show Kd.R Kd.bool 4 _ _ _ _ (rd_L11 x5_3 x8_3) from ge36_0)
      have HP36 := Kd.R_putg ge36_0 (x30_2 : Int) true
      go_wp2_with (first | ((with_reducible refine gate_store (t := 4) (p := 51) rfl ?_); refine store_event (t := 4) (p := 51) (v := ?vo_w37) (w1 := (wr.setCell ⟨go33, (x30_2 : Int).toNat, none⟩ (.bool true))) ?hg ?ho ?hn ?hr ?_; (case ho => rfl); (case hg => rfl); (case hn => rfl); (case hr => first | (go_simp; done) | (go_simp; rfl)); intro w37 hw; have hg : wr.grownBy w37 (some go33) := (by rw [hw]; exact HP36.2); have hz_ : Kd.R Kd.bool 4 w37 w.heap.size oki36 (.slice (some ⟨go33, 0, none⟩) (rd_L11 x5_3 x8_3).length c264_0) y265 := (by rw [hw, Ny265.out]; exact HP36.1); have hp_ : Kd.S (Kd.slice 4 Kd.bool) 34 w37 w.heap.size (fun k_ => some k_ ≠ (.slice (some ad263) x4_3.length co35 : Value).ownBlock) (.slice (some ad264) x5_3.length co13) y267 := (by rw [Ny267.out]; exact hbk36 hg (fun k_ e_ => by injection e_ with e_; subst e_; exact ge36_0.1 _ rfl) (Kd.M_row hz_)); have hm_ := R_mono hz_ hok36; clear HP36 hbk36; have n0_ := Aside0.mk (Kd.R_over' (v := (.slice (some ⟨go33, 0, none⟩) (rd_L11 x5_3 x8_3).length c264_0)) (ru HO_3.out) (Kd.R_typed HL264_0.out) (by decide) hg); have n1_ := Aside0.mk (Kd.R_grown1 (ru HO_4.out) rfl hg ((HL264_0.out.1 _ rfl).1)); have n2_ := Aside0.mk (hp_); have n3_ := Aside0.mk (blk_grown (bu BK249.out) hg (Kd.R_ne HL264_0.out BK249.out (by decide))); have n4_ := Aside0.mk ((by rw [hw]; exact below_set (HB.out) GB33.out : Below w.heap.size w w37)); have n5_ := Aside0.mk (hm_); have n6_ := Aside0.mk ((R_reads' hm_).2.1); clear HO_3; clear HO_4; clear HO_5; clear BK249; clear HB; clear HL264_0; have HO_3 := n0_; have HO_4 := n1_; have HO_5 := n2_; have BK249 := n3_; have HB := n4_; have HL269 := n5_; have HC266 := n6_; clear n0_ n1_ n2_ n3_ n4_ n5_ n6_; clear hg hw hp_ hz_ hm_ hok36; have p268 : 0 ≤ (x8_3 : Int) := of_decide_eq_true (by with_reducible assumption); have q268 : x8_3 < (t250.length : Int) := of_decide_eq_true (by with_reducible assumption); obtain ⟨ad268, e268, hx268_0⟩ := Kd.at_int (R_reads' HO_3.out).2.2 x8_3 p268 q268; cases e268; replace p268 := eq_true p268; replace q268 := eq_true q268))
      (try simp only [← hl5_3])
      go_roundg k3
      case measure => have := HK1.out; have := HK2.out; have := HK3.out; omega
      case rel => exact ⟨(x4_3), (y267), (rd t250 x8_3), (by first | rfl | (simp; done) | (simp [*]; done)), H', ⟨by have := HK1.out; have := HK2.out; have := HK3.out; omega⟩, ⟨by (try simp only [hl5_1]); (try simp only [hl5_2]); (try simp only [hl5_3]); (with_reducible repeat (first | apply R_alloc | apply R_drewN | apply R_drew)); exact HO_3.out⟩, ⟨by (try simp only [hl5_1]); (try simp only [hl5_2]); (try simp only [hl5_3]); (with_reducible repeat (first | apply R_alloc | apply R_drewN | apply R_drew)); exact HO_4.out⟩, ⟨by (try simp only [hl5_1]); (try simp only [hl5_2]); (try simp only [hl5_3]); (with_reducible repeat (first | apply S_alloc | apply S_drewN | apply S_drew)); exact HO_5.out⟩, ⟨by (try simp only [hl5_1]); (try simp only [hl5_2]); (try simp only [hl5_3]); (with_reducible repeat (first | refine blk_drewN ?_ _ | refine blk_drew ?_ | refine blk_alloc ?_ _)); exact BK249.out⟩, ⟨lu HB.out⟩⟩
    rw [if_neg c29] at H
    have c29b0 : decide (0 ≤ x8_3) = false := decide_eq_false c29
    clear c29
    have H' := Aside0.mk H
    clear H
    obtain ⟨Ao38, co38, eo38⟩ := Kd.R_slice HO_4.out
    subst eo38
    have p263 : 0 ≤ (x30_2 : Int) := of_decide_eq_true (by with_reducible assumption)
    have q263 : x30_2 < (x4_3.length : Int) := of_decide_eq_true (by with_reducible assumption)
    obtain ⟨ad263, e263, hx263_0⟩ := Kd.at_bool (R_reads' HO_4.out).2.2 x30_2 p263 q263
    (try rw [← Nbq27.out] at hx263_0)
    cases e263
    replace p263 := eq_true p263
    replace q263 := eq_true q263
    go_wp2
    (try simp only [← hl5_2, ← hl5_3])
    go_roundg k3
    case measure => have := HK1.out; have := HK2.out; have := HK3.out; omega
    case rel => exact ⟨(x4_3), (x5_3), (wrap64 (x30_2 + 1)), (by first | rfl | (simp; done) | (simp [*]; done)), H', ⟨by have := HK1.out; have := HK2.out; have := HK3.out; omega⟩, ⟨by (try simp only [hl5_1]); (try simp only [hl5_2]); (try simp only [hl5_3]); (with_reducible repeat (first | apply R_alloc | apply R_drewN | apply R_drew)); exact HO_3.out⟩, ⟨by (try simp only [hl5_1]); (try simp only [hl5_2]); (try simp only [hl5_3]); (with_reducible repeat (first | apply R_alloc | apply R_drewN | apply R_drew)); exact HO_4.out⟩, ⟨by (try simp only [hl5_1]); (try simp only [hl5_2]); (try simp only [hl5_3]); (with_reducible repeat (first | apply S_alloc | apply S_drewN | apply S_drew)); exact HO_5.out⟩, ⟨by (try simp only [hl5_1]); (try simp only [hl5_2]); (try simp only [hl5_3]); (with_reducible repeat (first | refine blk_drewN ?_ _ | refine blk_drew ?_ | refine blk_alloc ?_ _)); exact BK249.out⟩, ⟨lu HB.out⟩⟩
  replace c28 := Bool.eq_false_iff.mpr c28
  subst c28
  have H1 : (dom_Dominates.l1 k3 t250 x4_3 x5_3 (x5_1.length : Int) (wrap64 (x30_2 + 1))) = some r := by rw [if_neg (show ¬ (false = true) by decide)] at H; exact H
  clear H
  have H := H1
  clear H1
  have H' := Aside0.mk H
  clear H
  obtain ⟨Ao39, co39, eo39⟩ := Kd.R_slice HO_4.out
  subst eo39
  have p263 : 0 ≤ (x30_2 : Int) := of_decide_eq_true (by with_reducible assumption)
  have q263 : x30_2 < (x4_3.length : Int) := of_decide_eq_true (by with_reducible assumption)
  obtain ⟨ad263, e263, hx263_0⟩ := Kd.at_bool (R_reads' HO_4.out).2.2 x30_2 p263 q263
  (try rw [← Nbq27.out] at hx263_0)
  cases e263
  replace p263 := eq_true p263
  replace q263 := eq_true q263
  go_wp2
  (try simp only [← hl5_2, ← hl5_3])
  go_roundg k3
  case measure => have := HK1.out; have := HK2.out; have := HK3.out; omega
  case rel => exact ⟨(x4_3), (x5_3), (wrap64 (x30_2 + 1)), (by first | rfl | (simp; done) | (simp [*]; done)), H', ⟨by have := HK1.out; have := HK2.out; have := HK3.out; omega⟩, ⟨by (try simp only [hl5_1]); (try simp only [hl5_2]); (try simp only [hl5_3]); (with_reducible repeat (first | apply R_alloc | apply R_drewN | apply R_drew)); exact HO_3.out⟩, ⟨by (try simp only [hl5_1]); (try simp only [hl5_2]); (try simp only [hl5_3]); (with_reducible repeat (first | apply R_alloc | apply R_drewN | apply R_drew)); exact HO_4.out⟩, ⟨by (try simp only [hl5_1]); (try simp only [hl5_2]); (try simp only [hl5_3]); (with_reducible repeat (first | apply S_alloc | apply S_drewN | apply S_drew)); exact HO_5.out⟩, ⟨by (try simp only [hl5_1]); (try simp only [hl5_2]); (try simp only [hl5_3]); (with_reducible repeat (first | refine blk_drewN ?_ _ | refine blk_drew ?_ | refine blk_alloc ?_ _)); exact BK249.out⟩, ⟨lu HB.out⟩⟩
end Go.Proofs.Ytpionncanaamgaa.PLoopsStays
