-- Laid by a program of this session (wip/pp/patch.py over the kit's print).
import Derived.Test.YtpionncanaamgaaPDomNearestx0
import Derived.Test.YtpionncanaamgaaPDomNearestx11
namespace Go.Proofs.Ytpionncanaamgaa.PDomNearest
open Go.RowKit Go.Proofs.YtpionncanaamgaaW.PrintWords Go.Proofs.YtpionncanaamgaaW.PrintLast Go.Proofs.YtpionncanaamgaaW.PrintMore Go.Proofs.YtpionncanaamgaaW.PrintWords.Kd
attribute [local go_sem] max2_int min2_int max_two min_two max_three min_three max_four min_four   -- for this text's walks alone
set_option linter.unusedVariables false
set_option linter.unusedSimpArgs false

/-! ### fettleref06_Nearest: function 22 -/
mutual
def fettleref06_Nearest.l0 : Nat → List (List Bool) → List Int → Int → Option (List Int)
  | 0, _, _, _ => none
  | k + 1, x3, x4, x5 => if x5 < (x3.length : Int) then (fettleref06_Nearest.l1 k x3 x4 x5 (-1) 0) else (some x4)
def fettleref06_Nearest.l1 : Nat → List (List Bool) → List Int → Int → Int → Int → Option (List Int)
  | 0, _, _, _, _, _ => none
  | k + 1, x3, x4, x5, x6, x7 => if x7 < (x3.length : Int) then (if x7 = x5 then (fettleref06_Nearest.j2 k x3 x4 x5 x6 x7 true) else (if 0 ≤ x7 then (if 0 ≤ x5 then (if x5 < ((rd_L11 x3 x7).length : Int) then (fettleref06_Nearest.j2 k x3 x4 x5 x6 x7 (!(rdOf false (rd_L11 x3 x7) x5))) else (none)) else (none)) else (none))) else (if x4.length < 17592186044416 then (fettleref06_Nearest.l0 k x3 (x4 ++ [x6]) (wrap64 (x5 + 1))) else (none))
def fettleref06_Nearest.j2 : Nat → List (List Bool) → List Int → Int → Int → Int → Bool → Option (List Int)
  | 0, _, _, _, _, _, _ => none
  | k + 1, x3, x4, x5, x6, x7, x36 => if x36 = true then (fettleref06_Nearest.l1 k x3 x4 x5 x6 (wrap64 (x7 + 1))) else (fettleref06_Nearest.l2 k x3 x4 x5 x6 x7 true 0)
def fettleref06_Nearest.l2 : Nat → List (List Bool) → List Int → Int → Int → Int → Bool → Int → Option (List Int)
  | 0, _, _, _, _, _, _, _ => none
  | k + 1, x3, x4, x5, x6, x7, x8, x9 => if x9 < (x3.length : Int) then (if x8 = true then (if x9 = x5 then (fettleref06_Nearest.l2 k x3 x4 x5 x6 x7 true (wrap64 (x9 + 1))) else (if 0 ≤ x9 then (if 0 ≤ x5 then (if x5 < ((rd_L11 x3 x9).length : Int) then (if (rdOf false (rd_L11 x3 x9) x5 = true) then (if 0 ≤ x7 then (if x7 < ((rd_L11 x3 x9).length : Int) then (fettleref06_Nearest.l2 k x3 x4 x5 x6 x7 (rdOf false (rd_L11 x3 x9) x7) (wrap64 (x9 + 1))) else (none)) else (none)) else (fettleref06_Nearest.l2 k x3 x4 x5 x6 x7 true (wrap64 (x9 + 1)))) else (none)) else (none)) else (none))) else (fettleref06_Nearest.l2 k x3 x4 x5 x6 x7 false (wrap64 (x9 + 1)))) else (if x8 = true then (fettleref06_Nearest.l1 k x3 x4 x5 x7 (wrap64 (x7 + 1))) else (fettleref06_Nearest.l1 k x3 x4 x5 x6 (wrap64 (x7 + 1))))
end
def fettleref06_Nearest.f (k : Nat) (a0_0 : Int) (a0_1 : Int) (l0_2 : List Int) (l0_3 : List (S52)) : Option (List Int) := (fettleref06_Dominates.f k a0_0 a0_1 l0_2 l0_3).bind fun t344 => (fettleref06_Nearest.l0 k t344 ([] : List Int) 0)
theorem fettleref06_Nearest.mono_l : ∀ k, (∀ y0 y1 y2, LeO (fettleref06_Nearest.l0 k y0 y1 y2) (fettleref06_Nearest.l0 (k + 1) y0 y1 y2)) ∧ (∀ y0 y1 y2 y3 y4, LeO (fettleref06_Nearest.l1 k y0 y1 y2 y3 y4) (fettleref06_Nearest.l1 (k + 1) y0 y1 y2 y3 y4)) ∧ (∀ y0 y1 y2 y3 y4 y5, LeO (fettleref06_Nearest.j2 k y0 y1 y2 y3 y4 y5) (fettleref06_Nearest.j2 (k + 1) y0 y1 y2 y3 y4 y5)) ∧ (∀ y0 y1 y2 y3 y4 y5 y6, LeO (fettleref06_Nearest.l2 k y0 y1 y2 y3 y4 y5 y6) (fettleref06_Nearest.l2 (k + 1) y0 y1 y2 y3 y4 y5 y6))
  | 0 => ⟨fun _ _ _ r h => by simp [fettleref06_Nearest.l0] at h, fun _ _ _ _ _ r h => by simp [fettleref06_Nearest.l1] at h, fun _ _ _ _ _ _ r h => by simp [fettleref06_Nearest.j2] at h, fun _ _ _ _ _ _ _ r h => by simp [fettleref06_Nearest.l2] at h⟩
  | k + 1 => by
    obtain ⟨ih0, ih1, ih2, ih3⟩ := fettleref06_Nearest.mono_l k
    refine ⟨?_, ?_, ?_, ?_⟩
    · intro y0 y1 y2
      unfold fettleref06_Nearest.l0
      repeat' first
      | (with_reducible exact ih0 _ _ _)
      | (with_reducible exact ih1 _ _ _ _ _)
      | (with_reducible exact ih2 _ _ _ _ _ _)
      | (with_reducible exact ih3 _ _ _ _ _ _ _)
      | (with_reducible exact fettleref06_Dominates.mono _ _ _ _ _)
      | (with_reducible exact LeO.refl _)
      | (with_reducible exact LeO.none _)
      | (with_reducible refine LeO.ite ?_ ?_)
      | (with_reducible refine LeO.bind ?_ (fun _ => ?_))
      | exact ih0 _ _ _
      | exact ih1 _ _ _ _ _
      | exact ih2 _ _ _ _ _ _
      | exact ih3 _ _ _ _ _ _ _
      | exact fettleref06_Dominates.mono _ _ _ _ _
      | exact LeO.none _
      | refine LeO.ite ?_ ?_
      | refine LeO.bind ?_ (fun _ => ?_)
    · intro y0 y1 y2 y3 y4
      unfold fettleref06_Nearest.l1
      repeat' first
      | (with_reducible exact ih0 _ _ _)
      | (with_reducible exact ih1 _ _ _ _ _)
      | (with_reducible exact ih2 _ _ _ _ _ _)
      | (with_reducible exact ih3 _ _ _ _ _ _ _)
      | (with_reducible exact fettleref06_Dominates.mono _ _ _ _ _)
      | (with_reducible exact LeO.refl _)
      | (with_reducible exact LeO.none _)
      | (with_reducible refine LeO.ite ?_ ?_)
      | (with_reducible refine LeO.bind ?_ (fun _ => ?_))
      | exact ih0 _ _ _
      | exact ih1 _ _ _ _ _
      | exact ih2 _ _ _ _ _ _
      | exact ih3 _ _ _ _ _ _ _
      | exact fettleref06_Dominates.mono _ _ _ _ _
      | exact LeO.none _
      | refine LeO.ite ?_ ?_
      | refine LeO.bind ?_ (fun _ => ?_)
    · intro y0 y1 y2 y3 y4 y5
      unfold fettleref06_Nearest.j2
      repeat' first
      | (with_reducible exact ih0 _ _ _)
      | (with_reducible exact ih1 _ _ _ _ _)
      | (with_reducible exact ih2 _ _ _ _ _ _)
      | (with_reducible exact ih3 _ _ _ _ _ _ _)
      | (with_reducible exact fettleref06_Dominates.mono _ _ _ _ _)
      | (with_reducible exact LeO.refl _)
      | (with_reducible exact LeO.none _)
      | (with_reducible refine LeO.ite ?_ ?_)
      | (with_reducible refine LeO.bind ?_ (fun _ => ?_))
      | exact ih0 _ _ _
      | exact ih1 _ _ _ _ _
      | exact ih2 _ _ _ _ _ _
      | exact ih3 _ _ _ _ _ _ _
      | exact fettleref06_Dominates.mono _ _ _ _ _
      | exact LeO.none _
      | refine LeO.ite ?_ ?_
      | refine LeO.bind ?_ (fun _ => ?_)
    · intro y0 y1 y2 y3 y4 y5 y6
      unfold fettleref06_Nearest.l2
      repeat' first
      | (with_reducible exact ih0 _ _ _)
      | (with_reducible exact ih1 _ _ _ _ _)
      | (with_reducible exact ih2 _ _ _ _ _ _)
      | (with_reducible exact ih3 _ _ _ _ _ _ _)
      | (with_reducible exact fettleref06_Dominates.mono _ _ _ _ _)
      | (with_reducible exact LeO.refl _)
      | (with_reducible exact LeO.none _)
      | (with_reducible refine LeO.ite ?_ ?_)
      | (with_reducible refine LeO.bind ?_ (fun _ => ?_))
      | exact ih0 _ _ _
      | exact ih1 _ _ _ _ _
      | exact ih2 _ _ _ _ _ _
      | exact ih3 _ _ _ _ _ _ _
      | exact fettleref06_Dominates.mono _ _ _ _ _
      | exact LeO.none _
      | refine LeO.ite ?_ ?_
      | refine LeO.bind ?_ (fun _ => ?_)
theorem fettleref06_Nearest.mono : ∀ a0 a1 a2 a3 k, LeO (fettleref06_Nearest.f k a0 a1 a2 a3) (fettleref06_Nearest.f (k + 1) a0 a1 a2 a3) := by
  intro a0 a1 a2 a3 k
  obtain ⟨ih0, ih1, ih2, ih3⟩ := fettleref06_Nearest.mono_l k
  unfold fettleref06_Nearest.f
  repeat' first
      | (with_reducible exact ih0 _ _ _)
      | (with_reducible exact ih1 _ _ _ _ _)
      | (with_reducible exact ih2 _ _ _ _ _ _)
      | (with_reducible exact ih3 _ _ _ _ _ _ _)
      | (with_reducible exact fettleref06_Dominates.mono _ _ _ _ _)
      | (with_reducible exact LeO.refl _)
      | (with_reducible exact LeO.none _)
      | (with_reducible refine LeO.ite ?_ ?_)
      | (with_reducible refine LeO.bind ?_ (fun _ => ?_))
      | exact ih0 _ _ _
      | exact ih1 _ _ _ _ _
      | exact ih2 _ _ _ _ _ _
      | exact ih3 _ _ _ _ _ _ _
      | exact fettleref06_Dominates.mono _ _ _ _ _
      | exact LeO.none _
      | refine LeO.ite ?_ ?_
      | refine LeO.bind ?_ (fun _ => ?_)
set_option maxHeartbeats 8000000 in
set_option maxRecDepth 100000 in
theorem fettleref06_Nearest.calls (k : Nat) (a0_0 : Int) (a0_1 : Int) (A0_2 : Option Addr) (c0_2 : Nat) (l0_2 : List Int) (A0_3 : Option Addr) (c0_3 : Nat) (l0_3 : List (S52)) (r : List Int) (w : World) (hr0_2 : Kd.C (Kd.int .i64) w A0_2 l0_2.length l0_2) (hc0_2 : l0_2.length ≤ c0_2) (hr0_3 : Kd.C k52 w A0_3 l0_3.length l0_3) (hc0_3 : l0_3.length ≤ c0_3) (h : fettleref06_Nearest.f k a0_0 a0_1 l0_2 l0_3 = some r) :
    Calls Try.prog 22 #[.agg #[.int .i64 a0_0, .int .i64 a0_1, .slice A0_2 l0_2.length c0_2, .slice A0_3 l0_3.length c0_3]] w fun e w' => ∃ v0_ : Value, e = .returned (v0_) ∧ Kd.R (Kd.int .i64) 3 w' w.heap.size (fun _ => True) v0_ r ∧ Below w.heap.size w w' := by
  have hu25 := Try.underlying25
  have HR0_2 := Aside0.mk hr0_2
  have HC0_2 := Aside0.mk hc0_2
  clear hr0_2 hc0_2
  have HR0_3 := Aside0.mk hr0_3
  have HC0_3 := Aside0.mk hc0_3
  clear hr0_3 hc0_3
  have HB := Aside0.mk (Below.refl w.heap.size w)
  have H : ((fettleref06_Dominates.f k a0_0 a0_1 l0_2 l0_3).bind fun t344 => (fettleref06_Nearest.l0 k t344 ([] : List Int) 0)) = some r := h
  clear h
  replace H := Option.bind_eq_some_iff.mp H
  obtain ⟨t344, A20, H⟩ := H
  replace H : (fettleref06_Nearest.l0 k t344 ([] : List Int) 0) = some r := H
  have A2 := Aside0.mk A20
  clear A20
  have H' := Aside0.mk H
  clear H
  go_enter Try.func22, Try.ntmps22
  go_wp2_with (first | ((with_reducible refine gate_dst (N := 1) rfl ?_); refine box_event ?hg (N := 1) ?hd (cs := #[.int .i64 a0_0, .int .i64 a0_1, .slice A0_2 l0_2.length c0_2, .slice A0_3 l0_3.length c0_3]) (t := 25) ?hr ?_; (case hd => rfl); (case hg => rfl); (case hr => first | (go_simp; done) | (go_simp; rfl)); intro gb343 hg w3 hbox hb; have n0_ := Aside0.mk (below_step (by repeat with_reducible first | exact HB.out | apply below_alloc | apply pw_below_drewN | apply below_drew1) hb); have n1_ := Aside0.mk (hbox); have n2_ := Aside0.mk ((by rw [hg]; exact (below_size (by repeat with_reducible first | exact HB.out | apply below_alloc | apply pw_below_drewN | apply below_drew1)) : w.heap.size ≤ gb343)); have n3_ := Aside0.mk ((by rw [hg]; exact (below_size (by repeat with_reducible first | exact HB.out | apply below_alloc | apply pw_below_drewN | apply below_drew1)) : w.heap.size ≤ gb343)); clear HB; have HB := n0_; have BK343 := n1_; have GW343 := n2_; have GE343 := n3_; clear n0_ n1_ n2_ n3_; clear hb hbox hg; have hcz4_0 : w3.cell? ⟨gb343, 0, none⟩ = some (.int .i64 a0_0) := (blk_cell BK343.out 0).trans rfl; have hcz4_1 : w3.cell? ⟨gb343, 1, none⟩ = some (.int .i64 a0_1) := (blk_cell BK343.out 1).trans rfl; have hcz4_2 : w3.cell? ⟨gb343, 2, none⟩ = some (.slice A0_2 l0_2.length c0_2) := (blk_cell BK343.out 2).trans rfl; have hcz4_3 : w3.cell? ⟨gb343, 3, none⟩ = some (.slice A0_3 l0_3.length c0_3) := (blk_cell BK343.out 3).trans rfl; have hfz4_0 := blk_frozen BK343.out 0; have hfz4_1 := blk_frozen BK343.out 1; have hfz4_2 := blk_frozen BK343.out 2; have hfz4_3 := blk_frozen BK343.out 3) | ((with_reducible refine gate_callee (f := 14) rfl ?_); refine goesL_ (some 11) rfl rfl Try.func14 (by kernel_rfl) rfl #[.agg #[.int .i64 a0_0, .int .i64 a0_1, .slice A0_2 l0_2.length c0_2, .slice A0_3 l0_3.length c0_3]] rfl (by (try simp only [List.map_toArray, List.map_cons, List.map_nil]); first | done | rfl) ?_; (with_reducible refine (fettleref06_Dominates.calls k a0_0 a0_1 _ _ l0_2 _ _ l0_3 t344 _ ?side1 ?side2 ?side3 ?side4 A2.out).mono ?_); (case side1 => repeat (first | exact (C_below HR0_2.out HB.out) | (with_reducible refine C_alloc ?_ _) | (with_reducible refine C_drewN ?_ _) | (with_reducible refine C_drew ?_))); (case side2 => exact HC0_2.out); (case side3 => repeat (first | exact (C_below HR0_3.out HB.out) | (with_reducible refine C_alloc ?_ _) | (with_reducible refine C_drewN ?_ _) | (with_reducible refine C_drew ?_))); (case side4 => exact HC0_3.out); rintro e w5 ⟨v345, rfl, ho0, hb⟩; refine ⟨_, rfl, ?_⟩; have n0_ := Aside0.mk (Kd.S_lower ho0 (below_size (by repeat with_reducible first | exact HB.out | apply below_alloc | apply pw_below_drewN | apply below_drew1 | refine below_set ?_ GE343.out))); have n1_ := Aside0.mk (blk_below (g := gb343) (o := .cells #[.int .i64 a0_0, .int .i64 a0_1, .slice A0_2 l0_2.length c0_2, .slice A0_3 l0_3.length c0_3] 25 (0, 0)) (by (with_reducible repeat (first | refine blk_drewN ?_ _ | refine blk_drew ?_ | refine blk_alloc ?_ _)); exact BK343.out) hb); have n2_ := Aside0.mk (below_step (by repeat with_reducible first | exact HB.out | apply below_alloc | apply pw_below_drewN | apply below_drew1 | refine below_set ?_ GE343.out) hb); clear BK343; clear HB; have HO346 := n0_; have BK343 := n1_; have HB := n2_; clear n0_ n1_ n2_; (try clear hb); (try clear hb2); (try clear hk); (try clear hi); (try clear ho0)))
  go_loopg [4, 5] k (fun kq v4 v5 w' => ∃ (x4_1 : List Int) (x5_1 : Int), v5 = .int .i64 x5_1 ∧ Aside0 (fettleref06_Nearest.l0 kq t344 x4_1 x5_1 = some r) ∧ Aside0 (kq ≤ k) ∧ Aside0 (Kd.S (Kd.slice 4 Kd.bool) 34 w' w.heap.size (fun _ => True) v345 t344) ∧ Aside0 (Kd.R (Kd.int .i64) 3 w' w.heap.size (fun _ => True) v4 x4_1) ∧ Aside0 (w'.heap[gb343]? = some (.cells #[.int .i64 a0_0, .int .i64 a0_1, (.slice A0_2 l0_2.length c0_2), (.slice A0_3 l0_3.length c0_3)] 25 (0, 0))) ∧ Aside0 (Below w.heap.size w w'))
  case atStart => exact ⟨(([] : List Int)), (0), (by first | rfl | (simp; done) | (simp [*]; done)), H', ⟨Nat.le_refl _⟩, ⟨by (with_reducible repeat (first | apply S_alloc | apply S_drewN | apply S_drew)); exact HO346.out⟩, ⟨by first | exact Kd.R_nil _ _ _ _ _ | exact Kd.N_nil _ _ _ _ _ | exact Kd.V_nil _ _ _ _ _ | exact Kd.Q_nil _ _ _ _ _ | exact Kd.S_nil _ _ _ _ _⟩, ⟨by (with_reducible repeat (first | refine blk_drewN ?_ _ | refine blk_drew ?_ | refine blk_alloc ?_ _)); exact BK343.out⟩, ⟨by repeat (first | (with_reducible first | exact HB.out | apply below_alloc | apply pw_below_drewN | apply below_drew1 | refine below_set ?_ GE343.out) | exact HB.out)⟩⟩
  clear H'
  try clear c1
  try clear c2
  try clear p2
  try clear hcz4_0
  try clear hcz4_1
  try clear hcz4_2
  try clear hcz4_3
  try clear hfz4_0
  try clear hfz4_1
  try clear hfz4_2
  try clear hfz4_3
  obtain ⟨x4_1, x5_1, rfl, HA, HK1, HO_3, HO_4, BK343, HB⟩ := hrel
  rcases gk with _ | k1
  · exact absurd HA.out (by simp [fettleref06_Nearest.l0])
  have H := HA.out
  clear HA
  simp only [fettleref06_Nearest.l0] at H
  by_cases c6 : x5_1 < (t344.length : Int)
  · rw [if_pos c6] at H
    have c6b0 : decide (x5_1 < (t344.length : Int)) = true := decide_eq_true c6
    clear c6
    have H' := Aside0.mk H
    clear H
    obtain ⟨Ao7, co7, eo7⟩ := Kd.S_slice HO_3.out
    subst eo7
    go_wp2
    go_loopg [6, 7] k1 (fun kq v6 v7 w' => ∃ (x6_2 : Int) (x7_2 : Int), v6 = .int .i64 x6_2 ∧ v7 = .int .i64 x7_2 ∧ Aside0 (fettleref06_Nearest.l1 kq t344 x4_1 x5_1 x6_2 x7_2 = some r) ∧ Aside0 (kq ≤ k1) ∧ Aside0 (Kd.S (Kd.slice 4 Kd.bool) 34 w' w.heap.size (fun _ => True) (.slice Ao7 t344.length co7) t344) ∧ Aside0 (Kd.R (Kd.int .i64) 3 w' w.heap.size (fun _ => True) u4 x4_1) ∧ Aside0 (w'.heap[gb343]? = some (.cells #[.int .i64 a0_0, .int .i64 a0_1, (.slice A0_2 l0_2.length c0_2), (.slice A0_3 l0_3.length c0_3)] 25 (0, 0))) ∧ Aside0 (Below w.heap.size w w'))
    case atStart => exact ⟨((-1)), (0), (by first | rfl | (simp; done) | (simp [*]; done)), (by first | rfl | (simp; done) | (simp [*]; done)), H', ⟨Nat.le_refl _⟩, ⟨by (with_reducible repeat (first | apply S_alloc | apply S_drewN | apply S_drew)); exact HO_3.out⟩, ⟨by (with_reducible repeat (first | apply R_alloc | apply R_drewN | apply R_drew)); exact HO_4.out⟩, ⟨by (with_reducible repeat (first | refine blk_drewN ?_ _ | refine blk_drew ?_ | refine blk_alloc ?_ _)); exact BK343.out⟩, ⟨by repeat (first | (with_reducible first | exact HB.out | apply below_alloc | apply pw_below_drewN | apply below_drew1 | refine below_set ?_ GE343.out) | exact HB.out)⟩⟩
    clear H'
    try clear c1
    try clear c2
    try clear p2
    try clear c6
    try clear c6b0
    try clear hcz4_0
    try clear hcz4_1
    try clear hcz4_2
    try clear hcz4_3
    try clear hfz4_0
    try clear hfz4_1
    try clear hfz4_2
    try clear hfz4_3
    try clear p2
    obtain ⟨x6_2, x7_2, rfl, rfl, HA, HK2, HO_3, HO_4, BK343, HB⟩ := hrel
    rcases gk with _ | k2
    · exact absurd HA.out (by simp [fettleref06_Nearest.l1])
    have H := HA.out
    clear HA
    simp only [fettleref06_Nearest.l1] at H
    by_cases c8 : x7_2 < (t344.length : Int)
    · rw [if_pos c8] at H
      have c8b0 : decide (x7_2 < (t344.length : Int)) = true := decide_eq_true c8
      clear c8
      have HC9 := Aside0.mk H
      clear H
      go_upto_region 10 with (fail)
      go_cut [36] (fun v36 wc => ∃ (kq : Nat) (x36_8 : Bool), v36 = .bool x36_8 ∧ Aside0 (fettleref06_Nearest.j2 kq t344 x4_1 x5_1 x6_2 x7_2 x36_8 = some r) ∧ Aside0 (kq ≤ k2) ∧ Aside0 (Kd.S (Kd.slice 4 Kd.bool) 34 wc w.heap.size (fun _ => True) (.slice Ao7 t344.length co7) t344) ∧ Aside0 (Kd.R (Kd.int .i64) 3 wc w.heap.size (fun _ => True) u4 x4_1) ∧ Aside0 (wc.heap[gb343]? = some (.cells #[.int .i64 a0_0, .int .i64 a0_1, (.slice A0_2 l0_2.length c0_2), (.slice A0_3 l0_3.length c0_3)] 25 (0, 0))) ∧ Aside0 (Below w.heap.size w wc))
      case first =>
        have H := HC9.out
        clear HC9
        by_cases c10 : x7_2 = x5_1
        · rw [if_pos c10] at H
          have c10b0 : (x7_2 == x5_1) = true := beq_iff_eq.mpr c10
          have c10b1 : (x7_2 != x5_1) = false := bne_eq_false_iff_eq.mpr c10
          clear c10
          (first | rw [c10b0] | (simp only [i64_w, i32_w]; rw [c10b0]) | skip)
          have H' := Aside0.mk H
          clear H
          go_wp2
          go_meet
          case rel => exact ⟨_, (true), (by first | rfl | (simp; done) | (simp [*]; done)), H', ⟨by have := HK1.out; have := HK2.out; first | omega | exact Nat.le_refl _⟩, ⟨by (with_reducible repeat (first | apply S_alloc | apply S_drewN | apply S_drew)); exact HO_3.out⟩, ⟨by (with_reducible repeat (first | apply R_alloc | apply R_drewN | apply R_drew)); exact HO_4.out⟩, ⟨by (with_reducible repeat (first | refine blk_drewN ?_ _ | refine blk_drew ?_ | refine blk_alloc ?_ _)); exact BK343.out⟩, ⟨by repeat (first | (with_reducible first | exact HB.out | apply below_alloc | apply pw_below_drewN | apply below_drew1 | refine below_set ?_ GE343.out) | exact HB.out)⟩⟩
        rw [if_neg c10] at H
        have c10b0 : (x7_2 == x5_1) = false := beq_eq_false_iff_ne.mpr c10
        have c10b1 : (x7_2 != x5_1) = true := bne_iff_ne.mpr c10
        (first | rw [c10b0] | (simp only [i64_w, i32_w]; rw [c10b0]) | skip)
        by_cases c11 : 0 ≤ x7_2
        rotate_left
        · rw [if_neg c11] at H
          exact absurd H (by simp)
        rw [if_pos c11] at H
        have c11b0 : decide (0 ≤ x7_2) = true := decide_eq_true c11
        clear c11
        by_cases c12 : 0 ≤ x5_1
        rotate_left
        · rw [if_neg c12] at H
          exact absurd H (by simp)
        rw [if_pos c12] at H
        have c12b0 : decide (0 ≤ x5_1) = true := decide_eq_true c12
        clear c12
        by_cases c13 : x5_1 < ((rd_L11 t344 x7_2).length : Int)
        rotate_left
        · rw [if_neg c13] at H
          exact absurd H (by simp)
        rw [if_pos c13] at H
        have c13b0 : decide (x5_1 < ((rd_L11 t344 x7_2).length : Int)) = true := decide_eq_true c13
        clear c13
        have H' := Aside0.mk H
        clear H
        have p350 : 0 ≤ (x7_2 : Int) := of_decide_eq_true (by with_reducible assumption)
        have q350 : x7_2 < (t344.length : Int) := of_decide_eq_true (by with_reducible assumption)
        obtain ⟨ad350, A350_0, c350_0, e350, hx350_0, hl350_0, hi350_0⟩ := at_L11 (S_reads' HO_3.out).2.2 x7_2 p350 q350
        cases e350
        obtain ⟨ce350, hce350, hMe350, hcc350⟩ := S_get HO_3.out [] x7_2 p350 (by first | exact q350 | exact of_decide_eq_true (by with_reducible assumption) | (have e_ := (S_reads' HO_3.out).1; omega))
        obtain ⟨ve350_0, rfl, ge350_0⟩ := hMe350
        have hv350_0 := hcc350 0 _ rfl
        rw [Nat.add_zero, show ((Kd.slice 4 Kd.bool)).sz = 1 from rfl, Nat.mul_one] at hv350_0
        replace hv350_0 := Option.some.inj (hv350_0.symm.trans hx350_0)
        rw [hv350_0] at ge350_0
        have HL350_0 := Aside0.mk (show Kd.R Kd.bool 4 _ _ _ _ (rd_L11 t344 x7_2) from ge350_0)
        clear hv350_0 ge350_0
        clear hcc350 hce350
        have HR350_0 := Aside0.mk hi350_0
        have HC350_0 := Aside0.mk hl350_0
        clear hi350_0 hl350_0
        replace p350 := eq_true p350
        replace q350 := eq_true q350
        have p351 : 0 ≤ (x5_1 : Int) := of_decide_eq_true (by with_reducible assumption)
        have q351 : x5_1 < ((rd_L11 t344 x7_2).length : Int) := of_decide_eq_true (by with_reducible assumption)
        obtain ⟨ad351, e351, hx351_0⟩ := Kd.at_bool (by repeat with_reducible first | exact HR350_0.out | refine C_alloc ?_ _ | refine C_drewN ?_ _ | refine C_drew ?_) x5_1 p351 q351
        cases e351
        replace p351 := eq_true p351
        replace q351 := eq_true q351
        go_wp2
        go_meet
        case rel => exact ⟨_, (!(rdOf false (rd_L11 t344 x7_2) x5_1)), (by first | rfl | (simp; done) | (simp [*]; done)), H', ⟨by have := HK1.out; have := HK2.out; first | omega | exact Nat.le_refl _⟩, ⟨by (with_reducible repeat (first | apply S_alloc | apply S_drewN | apply S_drew)); exact HO_3.out⟩, ⟨by (with_reducible repeat (first | apply R_alloc | apply R_drewN | apply R_drew)); exact HO_4.out⟩, ⟨by (with_reducible repeat (first | refine blk_drewN ?_ _ | refine blk_drew ?_ | refine blk_alloc ?_ _)); exact BK343.out⟩, ⟨by repeat (first | (with_reducible first | exact HB.out | apply below_alloc | apply pw_below_drewN | apply below_drew1 | refine below_set ?_ GE343.out) | exact HB.out)⟩⟩
      clear HC9
      try clear c1
      try clear c2
      try clear p2
      try clear c3
      try clear p3
      try clear q3
      try clear hx3
      try clear c6
      try clear c6b0
      try clear c8
      try clear c8b0
      try clear c10
      try clear c10b0
      try clear c10b1
      try clear c11
      try clear c11b0
      try clear c12
      try clear c12b0
      try clear c13
      try clear c13b0
      try clear hcz4_0
      try clear hcz4_1
      try clear hcz4_2
      try clear hcz4_3
      try clear hfz4_0
      try clear hfz4_1
      try clear hfz4_2
      try clear hfz4_3
      try clear hx350_0
      try clear hx351_0
      try clear p2
      try clear p350
      try clear p351
      try clear q350
      try clear q351
      obtain ⟨kq, x36_8, rfl, HA, HJ8, HO_3, HO_4, BK343, HB⟩ := hcut
      rcases kq with _ | kj8
      · exact absurd HA.out (by simp [fettleref06_Nearest.j2])
      have H := HA.out
      clear HA
      simp only [fettleref06_Nearest.j2] at H
      by_cases c14 : x36_8 = true
      · subst c14
        have H1 : (fettleref06_Nearest.l1 kj8 t344 x4_1 x5_1 x6_2 (wrap64 (x7_2 + 1))) = some r := by rw [if_pos rfl] at H; exact H
        clear H
        have H := H1
        clear H1
        have H' := Aside0.mk H
        clear H
        go_wp2
        go_roundg kj8
        case measure => have := HK1.out; have := HK2.out; have := HJ8.out; omega
        case rel => exact ⟨(x6_2), (wrap64 (x7_2 + 1)), (by first | rfl | (simp; done) | (simp [*]; done)), (by first | rfl | (simp; done) | (simp [*]; done)), H', ⟨by have := HK1.out; have := HK2.out; have := HJ8.out; omega⟩, ⟨by (with_reducible repeat (first | apply S_alloc | apply S_drewN | apply S_drew)); exact HO_3.out⟩, ⟨by (with_reducible repeat (first | apply R_alloc | apply R_drewN | apply R_drew)); exact HO_4.out⟩, ⟨by (with_reducible repeat (first | refine blk_drewN ?_ _ | refine blk_drew ?_ | refine blk_alloc ?_ _)); exact BK343.out⟩, ⟨by repeat (first | (with_reducible first | exact HB.out | apply below_alloc | apply pw_below_drewN | apply below_drew1 | refine below_set ?_ GE343.out) | exact HB.out)⟩⟩
      replace c14 := Bool.eq_false_iff.mpr c14
      subst c14
      have H1 : (fettleref06_Nearest.l2 kj8 t344 x4_1 x5_1 x6_2 x7_2 true 0) = some r := by rw [if_neg (show ¬ (false = true) by decide)] at H; exact H
      clear H
      have H := H1
      clear H1
      have H' := Aside0.mk H
      clear H
      go_wp2
      go_loopg [8, 9] kj8 (fun kq v8 v9 w' => ∃ (x8_4 : Bool) (x9_4 : Int), v8 = .bool x8_4 ∧ v9 = .int .i64 x9_4 ∧ Aside0 (fettleref06_Nearest.l2 kq t344 x4_1 x5_1 x6_2 x7_2 x8_4 x9_4 = some r) ∧ Aside0 (kq ≤ kj8) ∧ Aside0 (Kd.S (Kd.slice 4 Kd.bool) 34 w' w.heap.size (fun _ => True) (.slice Ao7 t344.length co7) t344) ∧ Aside0 (Kd.R (Kd.int .i64) 3 w' w.heap.size (fun _ => True) u4 x4_1) ∧ Aside0 (w'.heap[gb343]? = some (.cells #[.int .i64 a0_0, .int .i64 a0_1, (.slice A0_2 l0_2.length c0_2), (.slice A0_3 l0_3.length c0_3)] 25 (0, 0))) ∧ Aside0 (Below w.heap.size w w'))
      case atStart => exact ⟨(true), (0), (by first | rfl | (simp; done) | (simp [*]; done)), (by first | rfl | (simp; done) | (simp [*]; done)), H', ⟨Nat.le_refl _⟩, ⟨by (with_reducible repeat (first | apply S_alloc | apply S_drewN | apply S_drew)); exact HO_3.out⟩, ⟨by (with_reducible repeat (first | apply R_alloc | apply R_drewN | apply R_drew)); exact HO_4.out⟩, ⟨by (with_reducible repeat (first | refine blk_drewN ?_ _ | refine blk_drew ?_ | refine blk_alloc ?_ _)); exact BK343.out⟩, ⟨by repeat (first | (with_reducible first | exact HB.out | apply below_alloc | apply pw_below_drewN | apply below_drew1 | refine below_set ?_ GE343.out) | exact HB.out)⟩⟩
      clear H'
      try clear c1
      try clear c2
      try clear p2
      try clear c3
      try clear p3
      try clear q3
      try clear hx3
      try clear c6
      try clear c6b0
      try clear p6
      try clear c8
      try clear c8b0
      try clear c10
      try clear c10b0
      try clear c10b1
      try clear c11
      try clear c11b0
      try clear c12
      try clear c12b0
      try clear c13
      try clear c13b0
      try clear c14
      try clear hcz4_0
      try clear hcz4_1
      try clear hcz4_2
      try clear hcz4_3
      try clear hfz4_0
      try clear hfz4_1
      try clear hfz4_2
      try clear hfz4_3
      try clear hx350_0
      try clear hx351_0
      try clear p2
      try clear p3
      try clear p350
      try clear p351
      try clear q3
      try clear q350
      try clear q351
      obtain ⟨x8_4, x9_4, rfl, rfl, HA, HK4, HO_3, HO_4, BK343, HB⟩ := hrel
      rcases gk with _ | k4
      · exact absurd HA.out (by simp [fettleref06_Nearest.l2])
      have H := HA.out
      clear HA
      simp only [fettleref06_Nearest.l2] at H
      by_cases c15 : x9_4 < (t344.length : Int)
      · rw [if_pos c15] at H
        have c15b0 : decide (x9_4 < (t344.length : Int)) = true := decide_eq_true c15
        clear c15
        by_cases c16 : x8_4 = true
        · subst c16
          have H1 : (if x9_4 = x5_1 then (fettleref06_Nearest.l2 k4 t344 x4_1 x5_1 x6_2 x7_2 true (wrap64 (x9_4 + 1))) else (if 0 ≤ x9_4 then (if 0 ≤ x5_1 then (if x5_1 < ((rd_L11 t344 x9_4).length : Int) then (if (rdOf false (rd_L11 t344 x9_4) x5_1 = true) then (if 0 ≤ x7_2 then (if x7_2 < ((rd_L11 t344 x9_4).length : Int) then (fettleref06_Nearest.l2 k4 t344 x4_1 x5_1 x6_2 x7_2 (rdOf false (rd_L11 t344 x9_4) x7_2) (wrap64 (x9_4 + 1))) else (none)) else (none)) else (fettleref06_Nearest.l2 k4 t344 x4_1 x5_1 x6_2 x7_2 true (wrap64 (x9_4 + 1)))) else (none)) else (none)) else (none))) = some r := by rw [if_pos rfl] at H; exact H
          clear H
          have H := H1
          clear H1
          by_cases c17 : x9_4 = x5_1
          · rw [if_pos c17] at H
            have c17b0 : (x9_4 == x5_1) = true := beq_iff_eq.mpr c17
            have c17b1 : (x9_4 != x5_1) = false := bne_eq_false_iff_eq.mpr c17
            clear c17
            have H' := Aside0.mk H
            clear H
            go_wp2
            go_roundg k4
            case measure => have := HK1.out; have := HK2.out; have := HJ8.out; have := HK4.out; omega
            case rel => exact ⟨(true), (wrap64 (x9_4 + 1)), (by first | rfl | (simp; done) | (simp [*]; done)), (by first | rfl | (simp; done) | (simp [*]; done)), H', ⟨by have := HK1.out; have := HK2.out; have := HJ8.out; have := HK4.out; omega⟩, ⟨by (with_reducible repeat (first | apply S_alloc | apply S_drewN | apply S_drew)); exact HO_3.out⟩, ⟨by (with_reducible repeat (first | apply R_alloc | apply R_drewN | apply R_drew)); exact HO_4.out⟩, ⟨by (with_reducible repeat (first | refine blk_drewN ?_ _ | refine blk_drew ?_ | refine blk_alloc ?_ _)); exact BK343.out⟩, ⟨by repeat (first | (with_reducible first | exact HB.out | apply below_alloc | apply pw_below_drewN | apply below_drew1 | refine below_set ?_ GE343.out) | exact HB.out)⟩⟩
          rw [if_neg c17] at H
          have c17b0 : (x9_4 == x5_1) = false := beq_eq_false_iff_ne.mpr c17
          have c17b1 : (x9_4 != x5_1) = true := bne_iff_ne.mpr c17
          by_cases c18 : 0 ≤ x9_4
          rotate_left
          · rw [if_neg c18] at H
            exact absurd H (by simp)
          rw [if_pos c18] at H
          have c18b0 : decide (0 ≤ x9_4) = true := decide_eq_true c18
          clear c18
          by_cases c19 : 0 ≤ x5_1
          rotate_left
          · rw [if_neg c19] at H
            exact absurd H (by simp)
          rw [if_pos c19] at H
          have c19b0 : decide (0 ≤ x5_1) = true := decide_eq_true c19
          clear c19
          by_cases c20 : x5_1 < ((rd_L11 t344 x9_4).length : Int)
          rotate_left
          · rw [if_neg c20] at H
            exact absurd H (by simp)
          rw [if_pos c20] at H
          have c20b0 : decide (x5_1 < ((rd_L11 t344 x9_4).length : Int)) = true := decide_eq_true c20
          clear c20
          obtain ⟨bq21, hbq21⟩ : ∃ b_ : Bool, b_ = (rdOf false (rd_L11 t344 x9_4) x5_1) := ⟨_, rfl⟩
          replace H : (if (bq21 = true) then (if 0 ≤ x7_2 then (if x7_2 < ((rd_L11 t344 x9_4).length : Int) then (fettleref06_Nearest.l2 k4 t344 x4_1 x5_1 x6_2 x7_2 (rdOf false (rd_L11 t344 x9_4) x7_2) (wrap64 (x9_4 + 1))) else (none)) else (none)) else (fettleref06_Nearest.l2 k4 t344 x4_1 x5_1 x6_2 x7_2 true (wrap64 (x9_4 + 1)))) = some r := by rw [← hbq21] at H; exact H
          have Nbq21 := Aside0.mk hbq21
          clear hbq21
          by_cases c22 : (bq21 = true)
          · subst c22
            have H1 : (if 0 ≤ x7_2 then (if x7_2 < ((rd_L11 t344 x9_4).length : Int) then (fettleref06_Nearest.l2 k4 t344 x4_1 x5_1 x6_2 x7_2 (rdOf false (rd_L11 t344 x9_4) x7_2) (wrap64 (x9_4 + 1))) else (none)) else (none)) = some r := by rw [if_pos rfl] at H; exact H
            clear H
            have H := H1
            clear H1
            by_cases c23 : 0 ≤ x7_2
            rotate_left
            · rw [if_neg c23] at H
              exact absurd H (by simp)
            rw [if_pos c23] at H
            have c23b0 : decide (0 ≤ x7_2) = true := decide_eq_true c23
            clear c23
            by_cases c24 : x7_2 < ((rd_L11 t344 x9_4).length : Int)
            rotate_left
            · rw [if_neg c24] at H
              exact absurd H (by simp)
            rw [if_pos c24] at H
            have c24b0 : decide (x7_2 < ((rd_L11 t344 x9_4).length : Int)) = true := decide_eq_true c24
            clear c24
            have H' := Aside0.mk H
            clear H
            have p352 : 0 ≤ (x9_4 : Int) := of_decide_eq_true (by with_reducible assumption)
            have q352 : x9_4 < (t344.length : Int) := of_decide_eq_true (by with_reducible assumption)
            obtain ⟨ad352, A352_0, c352_0, e352, hx352_0, hl352_0, hi352_0⟩ := at_L11 (S_reads' HO_3.out).2.2 x9_4 p352 q352
            cases e352
            obtain ⟨ce352, hce352, hMe352, hcc352⟩ := S_get HO_3.out [] x9_4 p352 (by first | exact q352 | exact of_decide_eq_true (by with_reducible assumption) | (have e_ := (S_reads' HO_3.out).1; omega))
            obtain ⟨ve352_0, rfl, ge352_0⟩ := hMe352
            have hv352_0 := hcc352 0 _ rfl
            rw [Nat.add_zero, show ((Kd.slice 4 Kd.bool)).sz = 1 from rfl, Nat.mul_one] at hv352_0
            replace hv352_0 := Option.some.inj (hv352_0.symm.trans hx352_0)
            rw [hv352_0] at ge352_0
            have HL352_0 := Aside0.mk (show Kd.R Kd.bool 4 _ _ _ _ (rd_L11 t344 x9_4) from ge352_0)
            clear hv352_0 ge352_0
            clear hcc352 hce352
            have HR352_0 := Aside0.mk hi352_0
            have HC352_0 := Aside0.mk hl352_0
            clear hi352_0 hl352_0
            replace p352 := eq_true p352
            replace q352 := eq_true q352
            have p353 : 0 ≤ (x5_1 : Int) := of_decide_eq_true (by with_reducible assumption)
            have q353 : x5_1 < ((rd_L11 t344 x9_4).length : Int) := of_decide_eq_true (by with_reducible assumption)
            obtain ⟨ad353, e353, hx353_0⟩ := Kd.at_bool (by repeat with_reducible first | exact HR352_0.out | refine C_alloc ?_ _ | refine C_drewN ?_ _ | refine C_drew ?_) x5_1 p353 q353
            (try rw [← Nbq21.out] at hx353_0)
            cases e353
            replace p353 := eq_true p353
            replace q353 := eq_true q353
            have p354 : 0 ≤ (x9_4 : Int) := of_decide_eq_true (by with_reducible assumption)
            have q354 : x9_4 < (t344.length : Int) := of_decide_eq_true (by with_reducible assumption)
            obtain ⟨ad354, A354_0, c354_0, e354, hx354_0, hl354_0, hi354_0⟩ := at_L11 (S_reads' HO_3.out).2.2 x9_4 p354 q354
            obtain rfl : ad352 = ad354 := (by injection e354)
            obtain ⟨ce354, hce354, hMe354, hcc354⟩ := S_get HO_3.out [] x9_4 p354 (by first | exact q354 | exact of_decide_eq_true (by with_reducible assumption) | (have e_ := (S_reads' HO_3.out).1; omega))
            obtain ⟨ve354_0, rfl, ge354_0⟩ := hMe354
            have hv354_0 := hcc354 0 _ rfl
            rw [Nat.add_zero, show ((Kd.slice 4 Kd.bool)).sz = 1 from rfl, Nat.mul_one] at hv354_0
            replace hv354_0 := Option.some.inj (hv354_0.symm.trans hx354_0)
            rw [hv354_0] at ge354_0
            have HL354_0 := Aside0.mk (show Kd.R Kd.bool 4 _ _ _ _ (rd_L11 t344 x9_4) from ge354_0)
            clear hv354_0 ge354_0
            clear hcc354 hce354
            have HR354_0 := Aside0.mk hi354_0
            have HC354_0 := Aside0.mk hl354_0
            clear hi354_0 hl354_0
            replace p354 := eq_true p354
            replace q354 := eq_true q354
            have ea_ := Option.some.inj (hx352_0.symm.trans hx354_0)
            injection ea_ with ea_ en_ ec_
            subst ea_
            subst ec_
            clear en_
            have p355 : 0 ≤ (x7_2 : Int) := of_decide_eq_true (by with_reducible assumption)
            have q355 : x7_2 < ((rd_L11 t344 x9_4).length : Int) := of_decide_eq_true (by with_reducible assumption)
            obtain ⟨ad355, e355, hx355_0⟩ := Kd.at_bool (by repeat with_reducible first | exact HR354_0.out | refine C_alloc ?_ _ | refine C_drewN ?_ _ | refine C_drew ?_) x7_2 p355 q355
            (try rw [← Nbq21.out] at hx355_0)
            cases e355
            replace p355 := eq_true p355
            replace q355 := eq_true q355
            go_wp2
            go_roundg k4
            case measure => have := HK1.out; have := HK2.out; have := HJ8.out; have := HK4.out; omega
            case rel => exact ⟨(rdOf false (rd_L11 t344 x9_4) x7_2), (wrap64 (x9_4 + 1)), (by first | rfl | (simp; done) | (simp [*]; done)), (by first | rfl | (simp; done) | (simp [*]; done)), H', ⟨by have := HK1.out; have := HK2.out; have := HJ8.out; have := HK4.out; omega⟩, ⟨by (with_reducible repeat (first | apply S_alloc | apply S_drewN | apply S_drew)); exact HO_3.out⟩, ⟨by (with_reducible repeat (first | apply R_alloc | apply R_drewN | apply R_drew)); exact HO_4.out⟩, ⟨by (with_reducible repeat (first | refine blk_drewN ?_ _ | refine blk_drew ?_ | refine blk_alloc ?_ _)); exact BK343.out⟩, ⟨by repeat (first | (with_reducible first | exact HB.out | apply below_alloc | apply pw_below_drewN | apply below_drew1 | refine below_set ?_ GE343.out) | exact HB.out)⟩⟩
          replace c22 := Bool.eq_false_iff.mpr c22
          subst c22
          have H1 : (fettleref06_Nearest.l2 k4 t344 x4_1 x5_1 x6_2 x7_2 true (wrap64 (x9_4 + 1))) = some r := by rw [if_neg (show ¬ (false = true) by decide)] at H; exact H
          clear H
          have H := H1
          clear H1
          have H' := Aside0.mk H
          clear H
          have p352 : 0 ≤ (x9_4 : Int) := of_decide_eq_true (by with_reducible assumption)
          have q352 : x9_4 < (t344.length : Int) := of_decide_eq_true (by with_reducible assumption)
          obtain ⟨ad352, A352_0, c352_0, e352, hx352_0, hl352_0, hi352_0⟩ := at_L11 (S_reads' HO_3.out).2.2 x9_4 p352 q352
          cases e352
          obtain ⟨ce352, hce352, hMe352, hcc352⟩ := S_get HO_3.out [] x9_4 p352 (by first | exact q352 | exact of_decide_eq_true (by with_reducible assumption) | (have e_ := (S_reads' HO_3.out).1; omega))
          obtain ⟨ve352_0, rfl, ge352_0⟩ := hMe352
          have hv352_0 := hcc352 0 _ rfl
          rw [Nat.add_zero, show ((Kd.slice 4 Kd.bool)).sz = 1 from rfl, Nat.mul_one] at hv352_0
          replace hv352_0 := Option.some.inj (hv352_0.symm.trans hx352_0)
          rw [hv352_0] at ge352_0
          have HL352_0 := Aside0.mk (show Kd.R Kd.bool 4 _ _ _ _ (rd_L11 t344 x9_4) from ge352_0)
          clear hv352_0 ge352_0
          clear hcc352 hce352
          have HR352_0 := Aside0.mk hi352_0
          have HC352_0 := Aside0.mk hl352_0
          clear hi352_0 hl352_0
          replace p352 := eq_true p352
          replace q352 := eq_true q352
          have p353 : 0 ≤ (x5_1 : Int) := of_decide_eq_true (by with_reducible assumption)
          have q353 : x5_1 < ((rd_L11 t344 x9_4).length : Int) := of_decide_eq_true (by with_reducible assumption)
          obtain ⟨ad353, e353, hx353_0⟩ := Kd.at_bool (by repeat with_reducible first | exact HR352_0.out | refine C_alloc ?_ _ | refine C_drewN ?_ _ | refine C_drew ?_) x5_1 p353 q353
          (try rw [← Nbq21.out] at hx353_0)
          cases e353
          replace p353 := eq_true p353
          replace q353 := eq_true q353
          go_wp2
          go_roundg k4
          case measure => have := HK1.out; have := HK2.out; have := HJ8.out; have := HK4.out; omega
          case rel => exact ⟨(true), (wrap64 (x9_4 + 1)), (by first | rfl | (simp; done) | (simp [*]; done)), (by first | rfl | (simp; done) | (simp [*]; done)), H', ⟨by have := HK1.out; have := HK2.out; have := HJ8.out; have := HK4.out; omega⟩, ⟨by (with_reducible repeat (first | apply S_alloc | apply S_drewN | apply S_drew)); exact HO_3.out⟩, ⟨by (with_reducible repeat (first | apply R_alloc | apply R_drewN | apply R_drew)); exact HO_4.out⟩, ⟨by (with_reducible repeat (first | refine blk_drewN ?_ _ | refine blk_drew ?_ | refine blk_alloc ?_ _)); exact BK343.out⟩, ⟨by repeat (first | (with_reducible first | exact HB.out | apply below_alloc | apply pw_below_drewN | apply below_drew1 | refine below_set ?_ GE343.out) | exact HB.out)⟩⟩
        replace c16 := Bool.eq_false_iff.mpr c16
        subst c16
        have H1 : (fettleref06_Nearest.l2 k4 t344 x4_1 x5_1 x6_2 x7_2 false (wrap64 (x9_4 + 1))) = some r := by rw [if_neg (show ¬ (false = true) by decide)] at H; exact H
        clear H
        have H := H1
        clear H1
        have H' := Aside0.mk H
        clear H
        go_wp2
        go_roundg k4
        case measure => have := HK1.out; have := HK2.out; have := HJ8.out; have := HK4.out; omega
        case rel => exact ⟨(false), (wrap64 (x9_4 + 1)), (by first | rfl | (simp; done) | (simp [*]; done)), (by first | rfl | (simp; done) | (simp [*]; done)), H', ⟨by have := HK1.out; have := HK2.out; have := HJ8.out; have := HK4.out; omega⟩, ⟨by (with_reducible repeat (first | apply S_alloc | apply S_drewN | apply S_drew)); exact HO_3.out⟩, ⟨by (with_reducible repeat (first | apply R_alloc | apply R_drewN | apply R_drew)); exact HO_4.out⟩, ⟨by (with_reducible repeat (first | refine blk_drewN ?_ _ | refine blk_drew ?_ | refine blk_alloc ?_ _)); exact BK343.out⟩, ⟨by repeat (first | (with_reducible first | exact HB.out | apply below_alloc | apply pw_below_drewN | apply below_drew1 | refine below_set ?_ GE343.out) | exact HB.out)⟩⟩
      rw [if_neg c15] at H
      have c15b0 : decide (x9_4 < (t344.length : Int)) = false := decide_eq_false c15
      clear c15
      by_cases c25 : x8_4 = true
      · subst c25
        have H1 : (fettleref06_Nearest.l1 k4 t344 x4_1 x5_1 x7_2 (wrap64 (x7_2 + 1))) = some r := by rw [if_pos rfl] at H; exact H
        clear H
        have H := H1
        clear H1
        have H' := Aside0.mk H
        clear H
        go_wp2
        go_roundg k4
        case measure => have := HK1.out; have := HK2.out; have := HJ8.out; have := HK4.out; omega
        case rel => exact ⟨(x7_2), (wrap64 (x7_2 + 1)), (by first | rfl | (simp; done) | (simp [*]; done)), (by first | rfl | (simp; done) | (simp [*]; done)), H', ⟨by have := HK1.out; have := HK2.out; have := HJ8.out; have := HK4.out; omega⟩, ⟨by (with_reducible repeat (first | apply S_alloc | apply S_drewN | apply S_drew)); exact HO_3.out⟩, ⟨by (with_reducible repeat (first | apply R_alloc | apply R_drewN | apply R_drew)); exact HO_4.out⟩, ⟨by (with_reducible repeat (first | refine blk_drewN ?_ _ | refine blk_drew ?_ | refine blk_alloc ?_ _)); exact BK343.out⟩, ⟨by repeat (first | (with_reducible first | exact HB.out | apply below_alloc | apply pw_below_drewN | apply below_drew1 | refine below_set ?_ GE343.out) | exact HB.out)⟩⟩
      replace c25 := Bool.eq_false_iff.mpr c25
      subst c25
      have H1 : (fettleref06_Nearest.l1 k4 t344 x4_1 x5_1 x6_2 (wrap64 (x7_2 + 1))) = some r := by rw [if_neg (show ¬ (false = true) by decide)] at H; exact H
      clear H
      have H := H1
      clear H1
      have H' := Aside0.mk H
      clear H
      go_wp2
      go_roundg k4
      case measure => have := HK1.out; have := HK2.out; have := HJ8.out; have := HK4.out; omega
      case rel => exact ⟨(x6_2), (wrap64 (x7_2 + 1)), (by first | rfl | (simp; done) | (simp [*]; done)), (by first | rfl | (simp; done) | (simp [*]; done)), H', ⟨by have := HK1.out; have := HK2.out; have := HJ8.out; have := HK4.out; omega⟩, ⟨by (with_reducible repeat (first | apply S_alloc | apply S_drewN | apply S_drew)); exact HO_3.out⟩, ⟨by (with_reducible repeat (first | apply R_alloc | apply R_drewN | apply R_drew)); exact HO_4.out⟩, ⟨by (with_reducible repeat (first | refine blk_drewN ?_ _ | refine blk_drew ?_ | refine blk_alloc ?_ _)); exact BK343.out⟩, ⟨by repeat (first | (with_reducible first | exact HB.out | apply below_alloc | apply pw_below_drewN | apply below_drew1 | refine below_set ?_ GE343.out) | exact HB.out)⟩⟩
    rw [if_neg c8] at H
    have c8b0 : decide (x7_2 < (t344.length : Int)) = false := decide_eq_false c8
    clear c8
    by_cases c26 : x4_1.length < 17592186044416
    rotate_left
    · rw [if_neg c26] at H
      exact absurd H (by simp)
    rw [if_pos c26] at H
    have LMc26 := Aside0.mk c26
    clear c26
    obtain ⟨y347, hy347⟩ : ∃ y_ : List Int, y_ = (x4_1 ++ [x6_2]) := ⟨_, rfl⟩
    replace H : (fettleref06_Nearest.l0 k2 t344 y347 (wrap64 (x5_1 + 1))) = some r := by first | (rw [hy347]; with_reducible exact H) | (have H2_ := (Option.bind_some _ _).symm.trans H; rw [hy347]; with_reducible exact H2_) | exact H
    have Ny347 := Aside0.mk hy347
    clear hy347
    have H' := Aside0.mk H
    clear H
    go_wp2_with (first | ((with_reducible refine gate_builtin (b := .append) (xs := #[.tmp 70, .tmp 72]) rfl ?_); at_builtin; refine Kd.R_append (Kd.int .i64) (w0 := w) w.heap.size rfl (.tmp 70) (.tmp 72) 22 3 (.int .i64 0) 8 rfl Try.underlying22 info3 rfl (by decide) (by omega) u4 x4_1 x6_2 [.int .i64 x6_2] (fun _ => True) (fun _ => False) rfl rfl ?aP (fun _ hk => hk.elim) ?aF ?aO ?aB ?aS ?aL ?_; (case aP => exact rfl); (case aB => exact (by repeat with_reducible first | exact HB.out | apply below_alloc | apply pw_below_drewN | apply below_drew1 | refine below_set ?_ GE343.out)); (case aF => exact (fun _ _ => trivial)); (case aO => exact (by (with_reducible repeat (first | apply R_alloc | apply R_drewN | apply R_drew)); exact HO_4.out)); (case aS => exact (below_size (by repeat with_reducible first | exact HB.out | apply below_alloc | apply pw_below_drewN | apply below_drew1 | refine below_set ?_ GE343.out))); (case aL => have := LMc26.out; omega); intro v348 w27 ho hb hg hat; rw [← Ny347.out] at ho; have n0_ := Aside0.mk (Kd.S_over' (by (with_reducible repeat (first | apply S_alloc | apply S_drewN | apply S_drew)); exact HO_3.out) (Kd.R_typed (by (with_reducible repeat (first | apply R_alloc | apply R_drewN | apply R_drew)); exact HO_4.out)) (by decide) hg); have n1_ := Aside0.mk (blk_grown (g := gb343) (o := .cells #[.int .i64 a0_0, .int .i64 a0_1, .slice A0_2 l0_2.length c0_2, .slice A0_3 l0_3.length c0_3] 25 (0, 0)) (by (with_reducible repeat (first | refine blk_drewN ?_ _ | refine blk_drew ?_ | refine blk_alloc ?_ _)); exact BK343.out) hg (Kd.R_ne HO_4.out BK343.out (by decide))); have n2_ := Aside0.mk (hb); have n3_ := Aside0.mk (ho); clear HO_3; clear BK343; clear HB; clear HO_4; have HO_3 := n0_; have BK343 := n1_; have HB := n2_; have HO349 := n3_; clear n0_ n1_ n2_ n3_; clear ho hb hg hat))
    go_roundg k2
    case measure => have := HK1.out; have := HK2.out; omega
    case rel => exact ⟨(y347), (wrap64 (x5_1 + 1)), (by first | rfl | (simp; done) | (simp [*]; done)), H', ⟨by have := HK1.out; have := HK2.out; omega⟩, ⟨by (with_reducible repeat (first | apply S_alloc | apply S_drewN | apply S_drew)); exact HO_3.out⟩, ⟨by (with_reducible repeat (first | apply R_alloc | apply R_drewN | apply R_drew)); exact HO349.out⟩, ⟨by (with_reducible repeat (first | refine blk_drewN ?_ _ | refine blk_drew ?_ | refine blk_alloc ?_ _)); exact BK343.out⟩, ⟨by repeat (first | (with_reducible first | exact HB.out | apply below_alloc | apply pw_below_drewN | apply below_drew1 | refine below_set ?_ GE343.out) | exact HB.out)⟩⟩
  rw [if_neg c6] at H
  have c6b0 : decide (x5_1 < (t344.length : Int)) = false := decide_eq_false c6
  clear c6
  obtain rfl := Option.some.inj H
  obtain ⟨Ao28, co28, eo28⟩ := Kd.S_slice HO_3.out
  subst eo28
  go_wp2
  go_ret
  exact ⟨_, by first | rfl | (simp [errW_none, errW_some] <;> rfl) | (simp [*, errW_none, errW_some] <;> rfl), by (with_reducible repeat (first | apply R_alloc | apply R_drewN | apply R_drew)); exact HO_4.out, by repeat (first | (with_reducible first | exact HB.out | apply below_alloc | apply pw_below_drewN | apply below_drew1 | refine below_set ?_ GE343.out) | exact HB.out)⟩

end Go.Proofs.Ytpionncanaamgaa.PDomNearest
