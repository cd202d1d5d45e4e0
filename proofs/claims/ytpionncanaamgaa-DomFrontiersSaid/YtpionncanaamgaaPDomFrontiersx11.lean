-- Laid by a program of this session (wip/pp/patch.py over the kit's print).
import Derived.Test.YtpionncanaamgaaPDomFrontiersx0
import Derived.Test.YtpionncanaamgaaPDomFrontiersx10
namespace Go.Proofs.Ytpionncanaamgaa.PDomFrontiers
open Go.RowKit Go.Proofs.YtpionncanaamgaaW.PrintWords Go.Proofs.YtpionncanaamgaaW.PrintLast Go.Proofs.YtpionncanaamgaaW.PrintMore Go.Proofs.YtpionncanaamgaaW.PrintWords.Kd
attribute [local go_sem] max2_int min2_int max_two min_two max_three min_three max_four min_four   -- for this text's walks alone
set_option linter.unusedVariables false
set_option linter.unusedSimpArgs false

/-! ### fettleref06_Dominates: function 14 -/
mutual
def fettleref06_Dominates.l0 : Nat → List Bool → List (List Bool) → Int → Int → Int → List Int → List (S52) → Option ((List (List Bool)))
  | 0, _, _, _, _, _, _, _ => none
  | k + 1, x3, x4, x5, x313000, x313001, x313002, x313003 => if x5 < (x3.length : Int) then ((fettleref05_From.f k x313000 x313001 x313002 x313003 0 x5).bind fun t316 => (if 0 ≤ (x3.length : Int) then (if ((x3.length : Int) : Int).toNat ≤ 281474976710656 then (fettleref06_Dominates.l1 k x3 x4 x5 t316 (List.replicate ((x3.length : Int) : Int).toNat false) 0 x313000 x313001 x313002 x313003) else (none)) else (none))) else (some x4)
def fettleref06_Dominates.l1 : Nat → List Bool → List (List Bool) → Int → List Bool → List Bool → Int → Int → Int → List Int → List (S52) → Option ((List (List Bool)))
  | 0, _, _, _, _, _, _, _, _, _, _ => none
  | k + 1, x3, x4, x5, x6, x7, x8, x313000, x313001, x313002, x313003 => if x8 < (x3.length : Int) then (if 0 ≤ x8 then (if rdOf false x3 x8 = true then (if x5 = x8 then (if x8 < (x7.length : Int) then (fettleref06_Dominates.l1 k x3 x4 x5 x6 (x7.set (x8 : Int).toNat true) (wrap64 (x8 + 1)) x313000 x313001 x313002 x313003) else (none)) else (if x8 < (x6.length : Int) then (if x8 < (x7.length : Int) then (fettleref06_Dominates.l1 k x3 x4 x5 x6 (x7.set (x8 : Int).toNat (!(rdOf false x6 x8))) (wrap64 (x8 + 1)) x313000 x313001 x313002 x313003) else (none)) else (none))) else (if x8 < (x7.length : Int) then (fettleref06_Dominates.l1 k x3 x4 x5 x6 (x7.set (x8 : Int).toNat false) (wrap64 (x8 + 1)) x313000 x313001 x313002 x313003) else (none))) else (none)) else (if x4.length < 5864062014805 then (fettleref06_Dominates.l0 k x3 (x4 ++ [x7]) (wrap64 (x5 + 1)) x313000 x313001 x313002 x313003) else (none))
end
def fettleref06_Dominates.f (k : Nat) (a0_0 : Int) (a0_1 : Int) (l0_2 : List Int) (l0_3 : List (S52)) : Option ((List (List Bool))) := (fettleref05_From.f k a0_0 a0_1 l0_2 l0_3 0 (-1)).bind fun t313 => (fettleref06_Dominates.l0 k t313 ([] : List (List Bool)) 0 a0_0 a0_1 l0_2 l0_3)
theorem fettleref06_Dominates.mono_l : ∀ k, (∀ y0 y1 y2 y3 y4 y5 y6, LeO (fettleref06_Dominates.l0 k y0 y1 y2 y3 y4 y5 y6) (fettleref06_Dominates.l0 (k + 1) y0 y1 y2 y3 y4 y5 y6)) ∧ (∀ y0 y1 y2 y3 y4 y5 y6 y7 y8 y9, LeO (fettleref06_Dominates.l1 k y0 y1 y2 y3 y4 y5 y6 y7 y8 y9) (fettleref06_Dominates.l1 (k + 1) y0 y1 y2 y3 y4 y5 y6 y7 y8 y9))
  | 0 => ⟨fun _ _ _ _ _ _ _ r h => by simp [fettleref06_Dominates.l0] at h, fun _ _ _ _ _ _ _ _ _ _ r h => by simp [fettleref06_Dominates.l1] at h⟩
  | k + 1 => by
    obtain ⟨ih0, ih1⟩ := fettleref06_Dominates.mono_l k
    refine ⟨?_, ?_⟩
    · intro y0 y1 y2 y3 y4 y5 y6
      unfold fettleref06_Dominates.l0
      repeat' first
      | (with_reducible exact ih0 _ _ _ _ _ _ _)
      | (with_reducible exact ih1 _ _ _ _ _ _ _ _ _ _)
      | (with_reducible exact fettleref05_From.mono _ _ _ _ _ _ _)
      | (with_reducible exact LeO.refl _)
      | (with_reducible exact LeO.none _)
      | (with_reducible refine LeO.ite ?_ ?_)
      | (with_reducible refine LeO.bind ?_ (fun _ => ?_))
      | exact ih0 _ _ _ _ _ _ _
      | exact ih1 _ _ _ _ _ _ _ _ _ _
      | exact fettleref05_From.mono _ _ _ _ _ _ _
      | exact LeO.none _
      | refine LeO.ite ?_ ?_
      | refine LeO.bind ?_ (fun _ => ?_)
    · intro y0 y1 y2 y3 y4 y5 y6 y7 y8 y9
      unfold fettleref06_Dominates.l1
      repeat' first
      | (with_reducible exact ih0 _ _ _ _ _ _ _)
      | (with_reducible exact ih1 _ _ _ _ _ _ _ _ _ _)
      | (with_reducible exact fettleref05_From.mono _ _ _ _ _ _ _)
      | (with_reducible exact LeO.refl _)
      | (with_reducible exact LeO.none _)
      | (with_reducible refine LeO.ite ?_ ?_)
      | (with_reducible refine LeO.bind ?_ (fun _ => ?_))
      | exact ih0 _ _ _ _ _ _ _
      | exact ih1 _ _ _ _ _ _ _ _ _ _
      | exact fettleref05_From.mono _ _ _ _ _ _ _
      | exact LeO.none _
      | refine LeO.ite ?_ ?_
      | refine LeO.bind ?_ (fun _ => ?_)
theorem fettleref06_Dominates.mono : ∀ a0 a1 a2 a3 k, LeO (fettleref06_Dominates.f k a0 a1 a2 a3) (fettleref06_Dominates.f (k + 1) a0 a1 a2 a3) := by
  intro a0 a1 a2 a3 k
  obtain ⟨ih0, ih1⟩ := fettleref06_Dominates.mono_l k
  unfold fettleref06_Dominates.f
  repeat' first
      | (with_reducible exact ih0 _ _ _ _ _ _ _)
      | (with_reducible exact ih1 _ _ _ _ _ _ _ _ _ _)
      | (with_reducible exact fettleref05_From.mono _ _ _ _ _ _ _)
      | (with_reducible exact LeO.refl _)
      | (with_reducible exact LeO.none _)
      | (with_reducible refine LeO.ite ?_ ?_)
      | (with_reducible refine LeO.bind ?_ (fun _ => ?_))
      | exact ih0 _ _ _ _ _ _ _
      | exact ih1 _ _ _ _ _ _ _ _ _ _
      | exact fettleref05_From.mono _ _ _ _ _ _ _
      | exact LeO.none _
      | refine LeO.ite ?_ ?_
      | refine LeO.bind ?_ (fun _ => ?_)
set_option maxHeartbeats 8000000 in
set_option maxRecDepth 100000 in
theorem fettleref06_Dominates.calls (k : Nat) (a0_0 : Int) (a0_1 : Int) (A0_2 : Option Addr) (c0_2 : Nat) (l0_2 : List Int) (A0_3 : Option Addr) (c0_3 : Nat) (l0_3 : List (S52)) (r : List (List Bool)) (w : World) (hr0_2 : Kd.C (Kd.int .i64) w A0_2 l0_2.length l0_2) (hc0_2 : l0_2.length ≤ c0_2) (hr0_3 : Kd.C k52 w A0_3 l0_3.length l0_3) (hc0_3 : l0_3.length ≤ c0_3) (h : fettleref06_Dominates.f k a0_0 a0_1 l0_2 l0_3 = some r) :
    Calls Try.prog 14 #[.agg #[.int .i64 a0_0, .int .i64 a0_1, .slice A0_2 l0_2.length c0_2, .slice A0_3 l0_3.length c0_3]] w fun e w' => ∃ v0_ : Value, e = .returned (v0_) ∧ Kd.S (Kd.slice 4 Kd.bool) 34 w' w.heap.size (fun _ => True) v0_ r ∧ Below w.heap.size w w' := by
  have hu25 := Try.underlying25
  have HR0_2 := Aside0.mk hr0_2
  have HC0_2 := Aside0.mk hc0_2
  clear hr0_2 hc0_2
  have HR0_3 := Aside0.mk hr0_3
  have HC0_3 := Aside0.mk hc0_3
  clear hr0_3 hc0_3
  have HB := Aside0.mk (Below.refl w.heap.size w)
  have H : ((fettleref05_From.f k a0_0 a0_1 l0_2 l0_3 0 (-1)).bind fun t313 => (fettleref06_Dominates.l0 k t313 ([] : List (List Bool)) 0 a0_0 a0_1 l0_2 l0_3)) = some r := h
  clear h
  replace H := Option.bind_eq_some_iff.mp H
  obtain ⟨t313, A20, H⟩ := H
  replace H : (fettleref06_Dominates.l0 k t313 ([] : List (List Bool)) 0 a0_0 a0_1 l0_2 l0_3) = some r := H
  have A2 := Aside0.mk A20
  clear A20
  have H' := Aside0.mk H
  clear H
  go_enter Try.func14, Try.ntmps14
  go_wp2_with (first | ((with_reducible refine gate_dst (N := 1) rfl ?_); refine box_event ?hg (N := 1) ?hd (cs := #[.int .i64 a0_0, .int .i64 a0_1, .slice A0_2 l0_2.length c0_2, .slice A0_3 l0_3.length c0_3]) (t := 25) ?hr ?_; (case hd => rfl); (case hg => rfl); (case hr => first | (go_simp; done) | (go_simp; rfl)); intro gb312 hg w3 hbox hb; have n0_ := Aside0.mk (below_step (by repeat with_reducible first | exact HB.out | apply below_alloc | apply pw_below_drewN | apply below_drew1) hb); have n1_ := Aside0.mk (hbox); have n2_ := Aside0.mk ((by rw [hg]; exact (below_size (by repeat with_reducible first | exact HB.out | apply below_alloc | apply pw_below_drewN | apply below_drew1)) : w.heap.size ≤ gb312)); have n3_ := Aside0.mk ((by rw [hg]; exact (below_size (by repeat with_reducible first | exact HB.out | apply below_alloc | apply pw_below_drewN | apply below_drew1)) : w.heap.size ≤ gb312)); clear HB; have HB := n0_; have BK312 := n1_; have GW312 := n2_; have GE312 := n3_; clear n0_ n1_ n2_ n3_; clear hb hbox hg; have hcz4_0 : w3.cell? ⟨gb312, 0, none⟩ = some (.int .i64 a0_0) := (blk_cell BK312.out 0).trans rfl; have hcz4_1 : w3.cell? ⟨gb312, 1, none⟩ = some (.int .i64 a0_1) := (blk_cell BK312.out 1).trans rfl; have hcz4_2 : w3.cell? ⟨gb312, 2, none⟩ = some (.slice A0_2 l0_2.length c0_2) := (blk_cell BK312.out 2).trans rfl; have hcz4_3 : w3.cell? ⟨gb312, 3, none⟩ = some (.slice A0_3 l0_3.length c0_3) := (blk_cell BK312.out 3).trans rfl; have hfz4_0 := blk_frozen BK312.out 0; have hfz4_1 := blk_frozen BK312.out 1; have hfz4_2 := blk_frozen BK312.out 2; have hfz4_3 := blk_frozen BK312.out 3) | ((with_reducible refine gate_callee (f := 18) rfl ?_); refine goesL_ (some 10) rfl rfl Try.func18 (by kernel_rfl) rfl #[.agg #[.int .i64 a0_0, .int .i64 a0_1, .slice A0_2 l0_2.length c0_2, .slice A0_3 l0_3.length c0_3], .int .i64 0, .int .i64 (-1)] rfl (by (try simp only [List.map_toArray, List.map_cons, List.map_nil]); first | done | rfl) ?_; (with_reducible refine (fettleref05_From.calls k a0_0 a0_1 _ _ l0_2 _ _ l0_3 0 (-1) t313 _ ?side1 ?side2 ?side3 ?side4 A2.out).mono ?_); (case side1 => repeat (first | exact (C_below HR0_2.out HB.out) | (with_reducible refine C_alloc ?_ _) | (with_reducible refine C_drewN ?_ _) | (with_reducible refine C_drew ?_))); (case side2 => exact HC0_2.out); (case side3 => repeat (first | exact (C_below HR0_3.out HB.out) | (with_reducible refine C_alloc ?_ _) | (with_reducible refine C_drewN ?_ _) | (with_reducible refine C_drew ?_))); (case side4 => exact HC0_3.out); rintro e w5 ⟨v314, rfl, ho0, hb⟩; refine ⟨_, rfl, ?_⟩; have n0_ := Aside0.mk (Kd.R_lower ho0 (below_size (by repeat with_reducible first | exact HB.out | apply below_alloc | apply pw_below_drewN | apply below_drew1 | refine below_set ?_ GE312.out))); have n1_ := Aside0.mk (blk_below (g := gb312) (o := .cells #[.int .i64 a0_0, .int .i64 a0_1, .slice A0_2 l0_2.length c0_2, .slice A0_3 l0_3.length c0_3] 25 (0, 0)) (by (with_reducible repeat (first | refine blk_drewN ?_ _ | refine blk_drew ?_ | refine blk_alloc ?_ _)); exact BK312.out) hb); have n2_ := Aside0.mk (below_step (by repeat with_reducible first | exact HB.out | apply below_alloc | apply pw_below_drewN | apply below_drew1 | refine below_set ?_ GE312.out) hb); clear BK312; clear HB; have HO315 := n0_; have BK312 := n1_; have HB := n2_; clear n0_ n1_ n2_; (try clear hb); (try clear hb2); (try clear hk); (try clear hi); (try clear ho0)))
  go_loopg [4, 5] k (fun kq v4 v5 w' => ∃ (x3_1 : List Bool) (x4_1 : List (List Bool)) (x5_1 : Int), v5 = .int .i64 x5_1 ∧ Aside0 (fettleref06_Dominates.l0 kq x3_1 x4_1 x5_1 a0_0 a0_1 l0_2 l0_3 = some r) ∧ Aside0 (kq ≤ k) ∧ Aside0 (Kd.R Kd.bool 4 w' w.heap.size (fun _ => True) v314 x3_1) ∧ Aside0 (Kd.S (Kd.slice 4 Kd.bool) 34 w' w.heap.size (fun k_ => some k_ ≠ (v314 : Value).ownBlock) v4 x4_1) ∧ Aside0 (w'.heap[gb312]? = some (.cells #[.int .i64 a0_0, .int .i64 a0_1, (.slice A0_2 l0_2.length c0_2), (.slice A0_3 l0_3.length c0_3)] 25 (0, 0))) ∧ Aside0 (Below w.heap.size w w'))
  case atStart => exact ⟨(t313), (([] : List (List Bool))), (0), (by first | rfl | (simp; done) | (simp [*]; done)), H', ⟨Nat.le_refl _⟩, ⟨by (with_reducible repeat (first | apply R_alloc | apply R_drewN | apply R_drew)); exact HO315.out⟩, ⟨by first | exact Kd.S_nil _ _ _ _ _ | exact Kd.N_nil _ _ _ _ _ | exact Kd.V_nil _ _ _ _ _ | exact Kd.Q_nil _ _ _ _ _ | exact Kd.R_nil _ _ _ _ _⟩, ⟨by (with_reducible repeat (first | refine blk_drewN ?_ _ | refine blk_drew ?_ | refine blk_alloc ?_ _)); exact BK312.out⟩, ⟨by repeat (first | (with_reducible first | exact HB.out | apply below_alloc | apply pw_below_drewN | apply below_drew1 | refine below_set ?_ GE312.out) | exact HB.out)⟩⟩
  clear H'
  try clear c1
  try clear p2
  try clear hcz4_0
  try clear hcz4_1
  try clear hcz4_2
  try clear hcz4_3
  try clear hfz4_0
  try clear hfz4_1
  try clear hfz4_2
  try clear hfz4_3
  obtain ⟨x3_1, x4_1, x5_1, rfl, HA, HK1, HO_3, HO_4, BK312, HB⟩ := hrel
  rcases gk with _ | k1
  · exact absurd HA.out (by simp [fettleref06_Dominates.l0])
  have H := HA.out
  clear HA
  simp only [fettleref06_Dominates.l0] at H
  by_cases c6 : x5_1 < (x3_1.length : Int)
  · rw [if_pos c6] at H
    have c6b0 : decide (x5_1 < (x3_1.length : Int)) = true := decide_eq_true c6
    clear c6
    replace H := Option.bind_eq_some_iff.mp H
    obtain ⟨t316, A70, H⟩ := H
    replace H : (if 0 ≤ (x3_1.length : Int) then (if ((x3_1.length : Int) : Int).toNat ≤ 281474976710656 then (fettleref06_Dominates.l1 k1 x3_1 x4_1 x5_1 t316 (List.replicate ((x3_1.length : Int) : Int).toNat false) 0 a0_0 a0_1 l0_2 l0_3) else (none)) else (none)) = some r := H
    have A7 := Aside0.mk A70
    clear A70
    by_cases c8 : 0 ≤ (x3_1.length : Int)
    rotate_left
    · rw [if_neg c8] at H
      exact absurd H (by simp)
    rw [if_pos c8] at H
    have c8b0 := eq_true c8
    have c8b1 : decide (0 ≤ (x3_1.length : Int)) = true := decide_eq_true c8
    clear c8
    by_cases c9 : ((x3_1.length : Int) : Int).toNat ≤ 281474976710656
    rotate_left
    · rw [if_neg c9] at H
      exact absurd H (by simp)
    rw [if_pos c9] at H
    have c9b0 := eq_true c9
    have c9b1 : decide (((x3_1.length : Int) : Int).toNat ≤ 281474976710656) = true := decide_eq_true c9
    clear c9
    obtain ⟨y319, hy319⟩ : ∃ y_ : List Bool, y_ = (List.replicate ((x3_1.length : Int) : Int).toNat false) := ⟨_, rfl⟩
    replace H : (fettleref06_Dominates.l1 k1 x3_1 x4_1 x5_1 t316 y319 0 a0_0 a0_1 l0_2 l0_3) = some r := by first | (rw [hy319]; with_reducible exact H) | (have H2_ := (Option.bind_some _ _).symm.trans H; rw [hy319]; with_reducible exact H2_) | exact H
    have Ny319 := Aside0.mk hy319
    clear hy319
    have H' := Aside0.mk H
    clear H
    obtain ⟨Ao10, co10, eo10⟩ := Kd.R_slice HO_3.out
    subst eo10
    have hcz11_0 : wr.cell? ⟨gb312, 0, none⟩ = some (.int .i64 a0_0) := (blk_cell BK312.out 0).trans rfl
    have hcz11_1 : wr.cell? ⟨gb312, 1, none⟩ = some (.int .i64 a0_1) := (blk_cell BK312.out 1).trans rfl
    have hcz11_2 : wr.cell? ⟨gb312, 2, none⟩ = some (.slice A0_2 l0_2.length c0_2) := (blk_cell BK312.out 2).trans rfl
    have hcz11_3 : wr.cell? ⟨gb312, 3, none⟩ = some (.slice A0_3 l0_3.length c0_3) := (blk_cell BK312.out 3).trans rfl
    have hfz11_0 := blk_frozen BK312.out 0
    have hfz11_1 := blk_frozen BK312.out 1
    have hfz11_2 := blk_frozen BK312.out 2
    have hfz11_3 := blk_frozen BK312.out 3
    go_wp2_with (first | ((with_reducible refine gate_callee (f := 18) rfl ?_); refine goesL_ (some 19) rfl rfl Try.func18 (by kernel_rfl) rfl #[.agg #[.int .i64 a0_0, .int .i64 a0_1, .slice A0_2 l0_2.length c0_2, .slice A0_3 l0_3.length c0_3], .int .i64 0, .int .i64 x5_1] rfl (by (try simp only [List.map_toArray, List.map_cons, List.map_nil]); first | done | rfl) ?_; (with_reducible refine (fettleref05_From.calls k1 a0_0 a0_1 _ _ l0_2 _ _ l0_3 0 x5_1 t316 _ ?side1 ?side2 ?side3 ?side4 A7.out).mono ?_); (case side1 => repeat (first | exact (C_below HR0_2.out HB.out) | (with_reducible refine C_alloc ?_ _) | (with_reducible refine C_drewN ?_ _) | (with_reducible refine C_drew ?_))); (case side2 => exact HC0_2.out); (case side3 => repeat (first | exact (C_below HR0_3.out HB.out) | (with_reducible refine C_alloc ?_ _) | (with_reducible refine C_drewN ?_ _) | (with_reducible refine C_drew ?_))); (case side4 => exact HC0_3.out); rintro e w12 ⟨v317, rfl, ho0, hb⟩; refine ⟨_, rfl, ?_⟩; have n0_ := Aside0.mk (R_elder' (by (with_reducible repeat (first | apply R_alloc | apply R_drewN | apply R_drew)); exact HO_3.out) (R_base ho0) hb); have n1_ := Aside0.mk (Kd.S_elder' (by (with_reducible repeat (first | apply S_alloc | apply S_drewN | apply S_drew)); exact HO_4.out) (R_base ho0) hb); have n2_ := Aside0.mk (Kd.R_lower (R_new' ho0 (R_lt (by (with_reducible repeat (first | apply R_alloc | apply R_drewN | apply R_drew)); exact HO_3.out))) (below_size (by repeat with_reducible first | exact HB.out | apply below_alloc | apply pw_below_drewN | apply below_drew1 | refine below_set ?_ GE312.out))); have n3_ := Aside0.mk (blk_below (g := gb312) (o := .cells #[.int .i64 a0_0, .int .i64 a0_1, .slice A0_2 l0_2.length c0_2, .slice A0_3 l0_3.length c0_3] 25 (0, 0)) (by (with_reducible repeat (first | refine blk_drewN ?_ _ | refine blk_drew ?_ | refine blk_alloc ?_ _)); exact BK312.out) hb); have n4_ := Aside0.mk (below_step (by repeat with_reducible first | exact HB.out | apply below_alloc | apply pw_below_drewN | apply below_drew1 | refine below_set ?_ GE312.out) hb); clear HO_3; clear HO_4; clear BK312; clear HB; have HO_3 := n0_; have HO_4 := n1_; have HO318 := n2_; have BK312 := n3_; have HB := n4_; clear n0_ n1_ n2_ n3_ n4_; (try clear hb); (try clear hb2); (try clear hk); (try clear hi); (try clear ho0)) | ((with_reducible refine gate_dst (N := 22) rfl ?_); refine Kd.R_make Kd.bool _ 4 rfl (N := 22) rfl 34 _ _ rfl (x3_1.length : Int) rfl rfl Try.underlying34 (.bool false) 1 info4 rfl (by decide) (by omega) false (ok := fun _ => True) (okp := fun _ => True) rfl (fun _ hk => hk) trivial (of_decide_eq_true (by with_reducible assumption)) (Nat.le_trans (Nat.mul_le_mul_right _ (of_decide_eq_true (by with_reducible assumption) : (x3_1.length : Int).toNat ≤ 281474976710656)) (by omega)) (Below.refl _ _) (Nat.le_refl _) ?_; intro v320 w13 ho14 hb hg_ hnew_; clear hg_ hnew_; rw [← Ny319.out] at ho14; have n0_ := Aside0.mk (R_elder' (by (with_reducible repeat (first | apply R_alloc | apply R_drewN | apply R_drew)); exact HO_3.out) (R_base ho14) hb); have n1_ := Aside0.mk (Kd.S_elder' (by (with_reducible repeat (first | apply S_alloc | apply S_drewN | apply S_drew)); exact HO_4.out) (R_base ho14) hb); have n2_ := Aside0.mk (R_elder' (by (with_reducible repeat (first | apply R_alloc | apply R_drewN | apply R_drew)); exact HO318.out) (R_base ho14) hb); have n3_ := Aside0.mk (Kd.R_lower (R_new' (R_new' ho14 (R_lt (by (with_reducible repeat (first | apply R_alloc | apply R_drewN | apply R_drew)); exact HO_3.out))) (R_lt (by (with_reducible repeat (first | apply R_alloc | apply R_drewN | apply R_drew)); exact HO318.out))) (below_size (by repeat with_reducible first | exact HB.out | apply below_alloc | apply pw_below_drewN | apply below_drew1 | refine below_set ?_ GE312.out))); have n4_ := Aside0.mk (blk_below (g := gb312) (o := .cells #[.int .i64 a0_0, .int .i64 a0_1, .slice A0_2 l0_2.length c0_2, .slice A0_3 l0_3.length c0_3] 25 (0, 0)) (by (with_reducible repeat (first | refine blk_drewN ?_ _ | refine blk_drew ?_ | refine blk_alloc ?_ _)); exact BK312.out) hb); have n5_ := Aside0.mk (below_step (by repeat with_reducible first | exact HB.out | apply below_alloc | apply pw_below_drewN | apply below_drew1 | refine below_set ?_ GE312.out) hb); clear HO_3; clear HO_4; clear HO318; clear BK312; clear HB; have HO_3 := n0_; have HO_4 := n1_; have HO318 := n2_; have HO321 := n3_; have BK312 := n4_; have HB := n5_; clear n0_ n1_ n2_ n3_ n4_ n5_; clear hb ho14))
    go_loopg [8] k1 (fun kq v8 w' => ∃ (x7_2 : List Bool) (x8_2 : Int), v8 = .int .i64 x8_2 ∧ Aside0 (fettleref06_Dominates.l1 kq x3_1 x4_1 x5_1 t316 x7_2 x8_2 a0_0 a0_1 l0_2 l0_3 = some r) ∧ Aside0 (kq ≤ k1) ∧ Aside0 (Kd.R Kd.bool 4 w' w.heap.size (fun k_ => some k_ ≠ (v317 : Value).ownBlock ∧ some k_ ≠ (v320 : Value).ownBlock) (.slice Ao10 x3_1.length co10) x3_1) ∧ Aside0 (Kd.S (Kd.slice 4 Kd.bool) 34 w' w.heap.size (fun k_ => some k_ ≠ ((.slice Ao10 x3_1.length co10) : Value).ownBlock ∧ some k_ ≠ (v317 : Value).ownBlock ∧ some k_ ≠ (v320 : Value).ownBlock) u4 x4_1) ∧ Aside0 (Kd.R Kd.bool 4 w' w.heap.size (fun k_ => some k_ ≠ ((.slice Ao10 x3_1.length co10) : Value).ownBlock ∧ some k_ ≠ (v320 : Value).ownBlock) v317 t316) ∧ Aside0 (Kd.R Kd.bool 4 w' w.heap.size (fun k_ => some k_ ≠ ((.slice Ao10 x3_1.length co10) : Value).ownBlock ∧ some k_ ≠ (v317 : Value).ownBlock) v320 x7_2) ∧ Aside0 (w'.heap[gb312]? = some (.cells #[.int .i64 a0_0, .int .i64 a0_1, (.slice A0_2 l0_2.length c0_2), (.slice A0_3 l0_3.length c0_3)] 25 (0, 0))) ∧ Aside0 (Below w.heap.size w w'))
    case atStart => exact ⟨(y319), (0), (by first | rfl | (simp; done) | (simp [*]; done)), H', ⟨Nat.le_refl _⟩, ⟨by (with_reducible repeat (first | apply R_alloc | apply R_drewN | apply R_drew)); exact R_mono HO_3.out (fun _ hk => ⟨hk.1.2, hk.2⟩)⟩, ⟨by (with_reducible repeat (first | apply S_alloc | apply S_drewN | apply S_drew)); exact S_mono HO_4.out (fun _ hk => ⟨hk.1.1, ⟨hk.1.2, hk.2⟩⟩)⟩, ⟨by (with_reducible repeat (first | apply R_alloc | apply R_drewN | apply R_drew)); exact R_mono HO318.out (fun _ hk => ⟨hk.1.2, hk.2⟩)⟩, ⟨by (with_reducible repeat (first | apply R_alloc | apply R_drewN | apply R_drew)); exact R_mono HO321.out (fun _ hk => ⟨hk.1.2, hk.2⟩)⟩, ⟨by (with_reducible repeat (first | refine blk_drewN ?_ _ | refine blk_drew ?_ | refine blk_alloc ?_ _)); exact BK312.out⟩, ⟨by repeat (first | (with_reducible first | exact HB.out | apply below_alloc | apply pw_below_drewN | apply below_drew1 | refine below_set ?_ GE312.out) | exact HB.out)⟩⟩
    clear H'
    try clear c1
    try clear p2
    try clear c6
    try clear c6b0
    try clear c8
    try clear c8b0
    try clear c8b1
    try clear c9
    try clear c9b0
    try clear c9b1
    try clear c14
    try clear hcz11_0
    try clear hcz11_1
    try clear hcz11_2
    try clear hcz11_3
    try clear hcz4_0
    try clear hcz4_1
    try clear hcz4_2
    try clear hcz4_3
    try clear hfz11_0
    try clear hfz11_1
    try clear hfz11_2
    try clear hfz11_3
    try clear hfz4_0
    try clear hfz4_1
    try clear hfz4_2
    try clear hfz4_3
    try clear p2
    obtain ⟨x7_2, x8_2, rfl, HA, HK2, HO_3, HO_4, HO_6, HO_7, BK312, HB⟩ := hrel
    rcases gk with _ | k2
    · exact absurd HA.out (by simp [fettleref06_Dominates.l1])
    have H := HA.out
    clear HA
    simp only [fettleref06_Dominates.l1] at H
    by_cases c15 : x8_2 < (x3_1.length : Int)
    · rw [if_pos c15] at H
      have c15b0 : decide (x8_2 < (x3_1.length : Int)) = true := decide_eq_true c15
      clear c15
      by_cases c16 : 0 ≤ x8_2
      rotate_left
      · rw [if_neg c16] at H
        exact absurd H (by simp)
      rw [if_pos c16] at H
      have c16b0 : decide (0 ≤ x8_2) = true := decide_eq_true c16
      clear c16
      obtain ⟨bq17, hbq17⟩ : ∃ b_ : Bool, b_ = (rdOf false x3_1 x8_2) := ⟨_, rfl⟩
      replace H : (if bq17 = true then (if x5_1 = x8_2 then (if x8_2 < (x7_2.length : Int) then (fettleref06_Dominates.l1 k2 x3_1 x4_1 x5_1 t316 (x7_2.set (x8_2 : Int).toNat true) (wrap64 (x8_2 + 1)) a0_0 a0_1 l0_2 l0_3) else (none)) else (if x8_2 < (t316.length : Int) then (if x8_2 < (x7_2.length : Int) then (fettleref06_Dominates.l1 k2 x3_1 x4_1 x5_1 t316 (x7_2.set (x8_2 : Int).toNat (!(rdOf false t316 x8_2))) (wrap64 (x8_2 + 1)) a0_0 a0_1 l0_2 l0_3) else (none)) else (none))) else (if x8_2 < (x7_2.length : Int) then (fettleref06_Dominates.l1 k2 x3_1 x4_1 x5_1 t316 (x7_2.set (x8_2 : Int).toNat false) (wrap64 (x8_2 + 1)) a0_0 a0_1 l0_2 l0_3) else (none))) = some r := by rw [← hbq17] at H; exact H
      have Nbq17 := Aside0.mk hbq17
      clear hbq17
      by_cases c18 : bq17 = true
      · subst c18
        have H1 : (if x5_1 = x8_2 then (if x8_2 < (x7_2.length : Int) then (fettleref06_Dominates.l1 k2 x3_1 x4_1 x5_1 t316 (x7_2.set (x8_2 : Int).toNat true) (wrap64 (x8_2 + 1)) a0_0 a0_1 l0_2 l0_3) else (none)) else (if x8_2 < (t316.length : Int) then (if x8_2 < (x7_2.length : Int) then (fettleref06_Dominates.l1 k2 x3_1 x4_1 x5_1 t316 (x7_2.set (x8_2 : Int).toNat (!(rdOf false t316 x8_2))) (wrap64 (x8_2 + 1)) a0_0 a0_1 l0_2 l0_3) else (none)) else (none))) = some r := by rw [if_pos rfl] at H; exact H
        clear H
        have H := H1
        clear H1
        by_cases c19 : x5_1 = x8_2
        · rw [if_pos c19] at H
          have c19b0 : (x5_1 == x8_2) = true := beq_iff_eq.mpr c19
          have c19b1 : (x5_1 != x8_2) = false := bne_eq_false_iff_eq.mpr c19
          clear c19
          by_cases c20 : x8_2 < (x7_2.length : Int)
          rotate_left
          · rw [if_neg c20] at H
            exact absurd H (by simp)
          rw [if_pos c20] at H
          have c20b0 : decide (x8_2 < (x7_2.length : Int)) = true := decide_eq_true c20
          clear c20
          obtain ⟨y323, hy323⟩ : ∃ y_ : List Bool, y_ = (x7_2.set (x8_2 : Int).toNat true) := ⟨_, rfl⟩
          replace H : (fettleref06_Dominates.l1 k2 x3_1 x4_1 x5_1 t316 y323 (wrap64 (x8_2 + 1)) a0_0 a0_1 l0_2 l0_3) = some r := by first | (rw [hy323]; with_reducible exact H) | (have H2_ := (Option.bind_some _ _).symm.trans H; rw [hy323]; with_reducible exact H2_) | exact H
          have Ny323 := Aside0.mk hy323
          clear hy323
          have H' := Aside0.mk H
          clear H
          have p322 : 0 ≤ (x8_2 : Int) := of_decide_eq_true (by with_reducible assumption)
          have q322 : x8_2 < (x3_1.length : Int) := of_decide_eq_true (by with_reducible assumption)
          obtain ⟨ad322, e322, hx322_0⟩ := Kd.at_bool (R_reads' HO_3.out).2.2 x8_2 p322 q322
          (try rw [← Nbq17.out] at hx322_0)
          cases e322
          replace p322 := eq_true p322
          replace q322 := eq_true q322
          have p21 : 0 ≤ (x8_2 : Int) := of_decide_eq_true (by with_reducible assumption)
          have q21 : (x8_2 : Int) < ((x7_2.length : Int) : Int) := of_decide_eq_true (by with_reducible assumption)
          obtain ⟨go21, co21, eo21, gb21, gl21, cl21, HG21⟩ := Kd.R_form HO_7.out (by omega)
          (first | cases eo21 | (injection eo21 with ea_ en_ ec_; (first | subst ea_ | (injection ea_ with ea_; subst ea_)); subst ec_; clear en_))
          have GB21 := Aside0.mk gb21
          have GG21 := Aside0.mk HG21
          clear gb21 gl21 HG21
          obtain ⟨hx21_0, hf21_0⟩ := Kd.R_celln false HO_7.out (x8_2 : Int) p21 q21
          replace p21 := eq_true p21
          replace q21 := eq_true q21
          have HP22 := Kd.R_putg HO_7.out (x8_2 : Int) true
          go_wp2_with (first | ((with_reducible refine gate_store (t := 4) (p := 47) rfl ?_); refine store_event (t := 4) (p := 47) (v := ?vo_w23) (w1 := (wr.setCell ⟨go21, (x8_2 : Int).toNat, none⟩ (.bool true))) ?hg ?ho ?hn ?hr ?_; (case ho => rfl); (case hg => rfl); (case hn => rfl); (case hr => first | (go_simp; done) | (go_simp; rfl)); intro w23 hw; have hg : wr.grownBy w23 (some go21) := (by rw [hw]; exact HP22.2); have hp_ : Kd.R Kd.bool 4 w23 w.heap.size (fun k_ => some k_ ≠ (.slice (some ad322) x3_1.length co10 : Value).ownBlock ∧ some k_ ≠ (v317 : Value).ownBlock) (.slice (some ⟨go21, 0, none⟩) x7_2.length co21) y323 := (by rw [hw, Ny323.out]; exact HP22.1); clear HP22; have n0_ := Aside0.mk (Kd.R_after (v := (.slice (some ⟨go21, 0, none⟩) x7_2.length co21)) (v1 := (.slice (some ⟨go21, 0, none⟩) x7_2.length co21)) (ok := (fun k_ => some k_ ≠ (v317 : Value).ownBlock)) (by (with_reducible repeat (first | apply R_alloc | apply R_drewN | apply R_drew)); exact HO_3.out) hg (.inl rfl)); have n1_ := Aside0.mk (Kd.S_after (v := (.slice (some ⟨go21, 0, none⟩) x7_2.length co21)) (v1 := (.slice (some ⟨go21, 0, none⟩) x7_2.length co21)) (ok := (fun k_ => some k_ ≠ (.slice (some ad322) x3_1.length co10 : Value).ownBlock ∧ some k_ ≠ (v317 : Value).ownBlock)) (by (with_reducible repeat (first | apply S_alloc | apply S_drewN | apply S_drew)); exact S_mono HO_4.out (fun _ hk => ⟨⟨hk.1, hk.2.1⟩, hk.2.2⟩)) hg (.inl rfl)); have n2_ := Aside0.mk (Kd.R_after (v := (.slice (some ⟨go21, 0, none⟩) x7_2.length co21)) (v1 := (.slice (some ⟨go21, 0, none⟩) x7_2.length co21)) (ok := (fun k_ => some k_ ≠ (.slice (some ad322) x3_1.length co10 : Value).ownBlock)) (by (with_reducible repeat (first | apply R_alloc | apply R_drewN | apply R_drew)); exact HO_6.out) hg (.inl rfl)); have n3_ := Aside0.mk (hp_); have n4_ := Aside0.mk (blk_grown (g := gb312) (o := .cells #[.int .i64 a0_0, .int .i64 a0_1, .slice A0_2 l0_2.length c0_2, .slice A0_3 l0_3.length c0_3] 25 (0, 0)) (by (with_reducible repeat (first | refine blk_drewN ?_ _ | refine blk_drew ?_ | refine blk_alloc ?_ _)); exact BK312.out) hg (Kd.R_ne HO_7.out BK312.out (by decide))); have n5_ := Aside0.mk ((by rw [hw]; exact below_set (HB.out) GB21.out : Below w.heap.size w w23)); clear HO_3; clear HO_4; clear HO_6; clear HO_7; clear BK312; clear HB; have HO_3 := n0_; have HO_4 := n1_; have HO_6 := n2_; have HO_7 := n3_; have BK312 := n4_; have HB := n5_; clear n0_ n1_ n2_ n3_ n4_ n5_; clear hg hw hp_))
          go_roundg k2
          case measure => have := HK1.out; have := HK2.out; omega
          case rel => exact ⟨(y323), (wrap64 (x8_2 + 1)), (by first | rfl | (simp; done) | (simp [*]; done)), H', ⟨by have := HK1.out; have := HK2.out; omega⟩, ⟨by (with_reducible repeat (first | apply R_alloc | apply R_drewN | apply R_drew)); exact HO_3.out⟩, ⟨by (with_reducible repeat (first | apply S_alloc | apply S_drewN | apply S_drew)); exact S_mono HO_4.out (fun _ hk => ⟨hk.1.1, ⟨hk.1.2, hk.2⟩⟩)⟩, ⟨by (with_reducible repeat (first | apply R_alloc | apply R_drewN | apply R_drew)); exact HO_6.out⟩, ⟨by (with_reducible repeat (first | apply R_alloc | apply R_drewN | apply R_drew)); exact HO_7.out⟩, ⟨by (with_reducible repeat (first | refine blk_drewN ?_ _ | refine blk_drew ?_ | refine blk_alloc ?_ _)); exact BK312.out⟩, ⟨by repeat (first | (with_reducible first | exact HB.out | apply below_alloc | apply pw_below_drewN | apply below_drew1 | refine below_set ?_ GE312.out) | exact HB.out)⟩⟩
        rw [if_neg c19] at H
        have c19b0 : (x5_1 == x8_2) = false := beq_eq_false_iff_ne.mpr c19
        have c19b1 : (x5_1 != x8_2) = true := bne_iff_ne.mpr c19
        by_cases c24 : x8_2 < (t316.length : Int)
        rotate_left
        · rw [if_neg c24] at H
          exact absurd H (by simp)
        rw [if_pos c24] at H
        have c24b0 : decide (x8_2 < (t316.length : Int)) = true := decide_eq_true c24
        clear c24
        by_cases c25 : x8_2 < (x7_2.length : Int)
        rotate_left
        · rw [if_neg c25] at H
          exact absurd H (by simp)
        rw [if_pos c25] at H
        have c25b0 : decide (x8_2 < (x7_2.length : Int)) = true := decide_eq_true c25
        clear c25
        obtain ⟨y325, hy325⟩ : ∃ y_ : List Bool, y_ = (x7_2.set (x8_2 : Int).toNat (!(rdOf false t316 x8_2))) := ⟨_, rfl⟩
        replace H : (fettleref06_Dominates.l1 k2 x3_1 x4_1 x5_1 t316 y325 (wrap64 (x8_2 + 1)) a0_0 a0_1 l0_2 l0_3) = some r := by first | (rw [hy325]; with_reducible exact H) | (have H2_ := (Option.bind_some _ _).symm.trans H; rw [hy325]; with_reducible exact H2_) | exact H
        have Ny325 := Aside0.mk hy325
        clear hy325
        have H' := Aside0.mk H
        clear H
        have p322 : 0 ≤ (x8_2 : Int) := of_decide_eq_true (by with_reducible assumption)
        have q322 : x8_2 < (x3_1.length : Int) := of_decide_eq_true (by with_reducible assumption)
        obtain ⟨ad322, e322, hx322_0⟩ := Kd.at_bool (R_reads' HO_3.out).2.2 x8_2 p322 q322
        (try rw [← Nbq17.out] at hx322_0)
        cases e322
        replace p322 := eq_true p322
        replace q322 := eq_true q322
        obtain ⟨Ao27, co27, eo27⟩ := Kd.R_slice HO_6.out
        subst eo27
        have p324 : 0 ≤ (x8_2 : Int) := of_decide_eq_true (by with_reducible assumption)
        have q324 : x8_2 < (t316.length : Int) := of_decide_eq_true (by with_reducible assumption)
        obtain ⟨ad324, e324, hx324_0⟩ := Kd.at_bool (R_reads' HO_6.out).2.2 x8_2 p324 q324
        (try rw [← Nbq17.out] at hx324_0)
        cases e324
        replace p324 := eq_true p324
        replace q324 := eq_true q324
        have p26 : 0 ≤ (x8_2 : Int) := of_decide_eq_true (by with_reducible assumption)
        have q26 : (x8_2 : Int) < ((x7_2.length : Int) : Int) := of_decide_eq_true (by with_reducible assumption)
        obtain ⟨go26, co26, eo26, gb26, gl26, cl26, HG26⟩ := Kd.R_form HO_7.out (by omega)
        (first | cases eo26 | (injection eo26 with ea_ en_ ec_; (first | subst ea_ | (injection ea_ with ea_; subst ea_)); subst ec_; clear en_))
        have GB26 := Aside0.mk gb26
        have GG26 := Aside0.mk HG26
        clear gb26 gl26 HG26
        obtain ⟨hx26_0, hf26_0⟩ := Kd.R_celln false HO_7.out (x8_2 : Int) p26 q26
        replace p26 := eq_true p26
        replace q26 := eq_true q26
        have HP28 := Kd.R_putg HO_7.out (x8_2 : Int) (!(rdOf false t316 x8_2))
        go_wp2_with (first | ((with_reducible refine gate_store (t := 4) (p := 47) rfl ?_); refine store_event (t := 4) (p := 47) (v := ?vo_w29) (w1 := (wr.setCell ⟨go26, (x8_2 : Int).toNat, none⟩ (.bool (!(rdOf false t316 x8_2))))) ?hg ?ho ?hn ?hr ?_; (case ho => rfl); (case hg => rfl); (case hn => rfl); (case hr => first | (go_simp; done) | (go_simp; rfl)); intro w29 hw; have hg : wr.grownBy w29 (some go26) := (by rw [hw]; exact HP28.2); have hp_ : Kd.R Kd.bool 4 w29 w.heap.size (fun k_ => some k_ ≠ (.slice (some ad322) x3_1.length co10 : Value).ownBlock ∧ some k_ ≠ (.slice (some ad324) t316.length co27 : Value).ownBlock) (.slice (some ⟨go26, 0, none⟩) x7_2.length co26) y325 := (by rw [hw, Ny325.out]; exact HP28.1); clear HP28; have n0_ := Aside0.mk (Kd.R_after (v := (.slice (some ⟨go26, 0, none⟩) x7_2.length co26)) (v1 := (.slice (some ⟨go26, 0, none⟩) x7_2.length co26)) (ok := (fun k_ => some k_ ≠ (.slice (some ad324) t316.length co27 : Value).ownBlock)) (by (with_reducible repeat (first | apply R_alloc | apply R_drewN | apply R_drew)); exact HO_3.out) hg (.inl rfl)); have n1_ := Aside0.mk (Kd.S_after (v := (.slice (some ⟨go26, 0, none⟩) x7_2.length co26)) (v1 := (.slice (some ⟨go26, 0, none⟩) x7_2.length co26)) (ok := (fun k_ => some k_ ≠ (.slice (some ad322) x3_1.length co10 : Value).ownBlock ∧ some k_ ≠ (.slice (some ad324) t316.length co27 : Value).ownBlock)) (by (with_reducible repeat (first | apply S_alloc | apply S_drewN | apply S_drew)); exact S_mono HO_4.out (fun _ hk => ⟨⟨hk.1, hk.2.1⟩, hk.2.2⟩)) hg (.inl rfl)); have n2_ := Aside0.mk (Kd.R_after (v := (.slice (some ⟨go26, 0, none⟩) x7_2.length co26)) (v1 := (.slice (some ⟨go26, 0, none⟩) x7_2.length co26)) (ok := (fun k_ => some k_ ≠ (.slice (some ad322) x3_1.length co10 : Value).ownBlock)) (by (with_reducible repeat (first | apply R_alloc | apply R_drewN | apply R_drew)); exact HO_6.out) hg (.inl rfl)); have n3_ := Aside0.mk (hp_); have n4_ := Aside0.mk (blk_grown (g := gb312) (o := .cells #[.int .i64 a0_0, .int .i64 a0_1, .slice A0_2 l0_2.length c0_2, .slice A0_3 l0_3.length c0_3] 25 (0, 0)) (by (with_reducible repeat (first | refine blk_drewN ?_ _ | refine blk_drew ?_ | refine blk_alloc ?_ _)); exact BK312.out) hg (Kd.R_ne HO_7.out BK312.out (by decide))); have n5_ := Aside0.mk ((by rw [hw]; exact below_set (HB.out) GB26.out : Below w.heap.size w w29)); clear HO_3; clear HO_4; clear HO_6; clear HO_7; clear BK312; clear HB; have HO_3 := n0_; have HO_4 := n1_; have HO_6 := n2_; have HO_7 := n3_; have BK312 := n4_; have HB := n5_; clear n0_ n1_ n2_ n3_ n4_ n5_; clear hg hw hp_))
        go_roundg k2
        case measure => have := HK1.out; have := HK2.out; omega
        case rel => exact ⟨(y325), (wrap64 (x8_2 + 1)), (by first | rfl | (simp; done) | (simp [*]; done)), H', ⟨by have := HK1.out; have := HK2.out; omega⟩, ⟨by (with_reducible repeat (first | apply R_alloc | apply R_drewN | apply R_drew)); exact HO_3.out⟩, ⟨by (with_reducible repeat (first | apply S_alloc | apply S_drewN | apply S_drew)); exact S_mono HO_4.out (fun _ hk => ⟨hk.1.1, ⟨hk.1.2, hk.2⟩⟩)⟩, ⟨by (with_reducible repeat (first | apply R_alloc | apply R_drewN | apply R_drew)); exact HO_6.out⟩, ⟨by (with_reducible repeat (first | apply R_alloc | apply R_drewN | apply R_drew)); exact HO_7.out⟩, ⟨by (with_reducible repeat (first | refine blk_drewN ?_ _ | refine blk_drew ?_ | refine blk_alloc ?_ _)); exact BK312.out⟩, ⟨by repeat (first | (with_reducible first | exact HB.out | apply below_alloc | apply pw_below_drewN | apply below_drew1 | refine below_set ?_ GE312.out) | exact HB.out)⟩⟩
      replace c18 := Bool.eq_false_iff.mpr c18
      subst c18
      have H1 : (if x8_2 < (x7_2.length : Int) then (fettleref06_Dominates.l1 k2 x3_1 x4_1 x5_1 t316 (x7_2.set (x8_2 : Int).toNat false) (wrap64 (x8_2 + 1)) a0_0 a0_1 l0_2 l0_3) else (none)) = some r := by rw [if_neg (show ¬ (false = true) by decide)] at H; exact H
      clear H
      have H := H1
      clear H1
      by_cases c30 : x8_2 < (x7_2.length : Int)
      rotate_left
      · rw [if_neg c30] at H
        exact absurd H (by simp)
      rw [if_pos c30] at H
      have c30b0 : decide (x8_2 < (x7_2.length : Int)) = true := decide_eq_true c30
      clear c30
      obtain ⟨y326, hy326⟩ : ∃ y_ : List Bool, y_ = (x7_2.set (x8_2 : Int).toNat false) := ⟨_, rfl⟩
      replace H : (fettleref06_Dominates.l1 k2 x3_1 x4_1 x5_1 t316 y326 (wrap64 (x8_2 + 1)) a0_0 a0_1 l0_2 l0_3) = some r := by first | (rw [hy326]; with_reducible exact H) | (have H2_ := (Option.bind_some _ _).symm.trans H; rw [hy326]; with_reducible exact H2_) | exact H
      have Ny326 := Aside0.mk hy326
      clear hy326
      have H' := Aside0.mk H
      clear H
      have p322 : 0 ≤ (x8_2 : Int) := of_decide_eq_true (by with_reducible assumption)
      have q322 : x8_2 < (x3_1.length : Int) := of_decide_eq_true (by with_reducible assumption)
      obtain ⟨ad322, e322, hx322_0⟩ := Kd.at_bool (R_reads' HO_3.out).2.2 x8_2 p322 q322
      (try rw [← Nbq17.out] at hx322_0)
      cases e322
      replace p322 := eq_true p322
      replace q322 := eq_true q322
      have p31 : 0 ≤ (x8_2 : Int) := of_decide_eq_true (by with_reducible assumption)
      have q31 : (x8_2 : Int) < ((x7_2.length : Int) : Int) := of_decide_eq_true (by with_reducible assumption)
      obtain ⟨go31, co31, eo31, gb31, gl31, cl31, HG31⟩ := Kd.R_form HO_7.out (by omega)
      (first | cases eo31 | (injection eo31 with ea_ en_ ec_; (first | subst ea_ | (injection ea_ with ea_; subst ea_)); subst ec_; clear en_))
      have GB31 := Aside0.mk gb31
      have GG31 := Aside0.mk HG31
      clear gb31 gl31 HG31
      obtain ⟨hx31_0, hf31_0⟩ := Kd.R_celln false HO_7.out (x8_2 : Int) p31 q31
      replace p31 := eq_true p31
      replace q31 := eq_true q31
      have HP32 := Kd.R_putg HO_7.out (x8_2 : Int) false
      go_wp2_with (first | ((with_reducible refine gate_store (t := 4) (p := 47) rfl ?_); refine store_event (t := 4) (p := 47) (v := ?vo_w33) (w1 := (wr.setCell ⟨go31, (x8_2 : Int).toNat, none⟩ (.bool false))) ?hg ?ho ?hn ?hr ?_; (case ho => rfl); (case hg => rfl); (case hn => rfl); (case hr => first | (go_simp; done) | (go_simp; rfl)); intro w33 hw; have hg : wr.grownBy w33 (some go31) := (by rw [hw]; exact HP32.2); have hp_ : Kd.R Kd.bool 4 w33 w.heap.size (fun k_ => some k_ ≠ (.slice (some ad322) x3_1.length co10 : Value).ownBlock ∧ some k_ ≠ (v317 : Value).ownBlock) (.slice (some ⟨go31, 0, none⟩) x7_2.length co31) y326 := (by rw [hw, Ny326.out]; exact HP32.1); clear HP32; have n0_ := Aside0.mk (Kd.R_after (v := (.slice (some ⟨go31, 0, none⟩) x7_2.length co31)) (v1 := (.slice (some ⟨go31, 0, none⟩) x7_2.length co31)) (ok := (fun k_ => some k_ ≠ (v317 : Value).ownBlock)) (by (with_reducible repeat (first | apply R_alloc | apply R_drewN | apply R_drew)); exact HO_3.out) hg (.inl rfl)); have n1_ := Aside0.mk (Kd.S_after (v := (.slice (some ⟨go31, 0, none⟩) x7_2.length co31)) (v1 := (.slice (some ⟨go31, 0, none⟩) x7_2.length co31)) (ok := (fun k_ => some k_ ≠ (.slice (some ad322) x3_1.length co10 : Value).ownBlock ∧ some k_ ≠ (v317 : Value).ownBlock)) (by (with_reducible repeat (first | apply S_alloc | apply S_drewN | apply S_drew)); exact S_mono HO_4.out (fun _ hk => ⟨⟨hk.1, hk.2.1⟩, hk.2.2⟩)) hg (.inl rfl)); have n2_ := Aside0.mk (Kd.R_after (v := (.slice (some ⟨go31, 0, none⟩) x7_2.length co31)) (v1 := (.slice (some ⟨go31, 0, none⟩) x7_2.length co31)) (ok := (fun k_ => some k_ ≠ (.slice (some ad322) x3_1.length co10 : Value).ownBlock)) (by (with_reducible repeat (first | apply R_alloc | apply R_drewN | apply R_drew)); exact HO_6.out) hg (.inl rfl)); have n3_ := Aside0.mk (hp_); have n4_ := Aside0.mk (blk_grown (g := gb312) (o := .cells #[.int .i64 a0_0, .int .i64 a0_1, .slice A0_2 l0_2.length c0_2, .slice A0_3 l0_3.length c0_3] 25 (0, 0)) (by (with_reducible repeat (first | refine blk_drewN ?_ _ | refine blk_drew ?_ | refine blk_alloc ?_ _)); exact BK312.out) hg (Kd.R_ne HO_7.out BK312.out (by decide))); have n5_ := Aside0.mk ((by rw [hw]; exact below_set (HB.out) GB31.out : Below w.heap.size w w33)); clear HO_3; clear HO_4; clear HO_6; clear HO_7; clear BK312; clear HB; have HO_3 := n0_; have HO_4 := n1_; have HO_6 := n2_; have HO_7 := n3_; have BK312 := n4_; have HB := n5_; clear n0_ n1_ n2_ n3_ n4_ n5_; clear hg hw hp_))
      go_roundg k2
      case measure => have := HK1.out; have := HK2.out; omega
      case rel => exact ⟨(y326), (wrap64 (x8_2 + 1)), (by first | rfl | (simp; done) | (simp [*]; done)), H', ⟨by have := HK1.out; have := HK2.out; omega⟩, ⟨by (with_reducible repeat (first | apply R_alloc | apply R_drewN | apply R_drew)); exact HO_3.out⟩, ⟨by (with_reducible repeat (first | apply S_alloc | apply S_drewN | apply S_drew)); exact S_mono HO_4.out (fun _ hk => ⟨hk.1.1, ⟨hk.1.2, hk.2⟩⟩)⟩, ⟨by (with_reducible repeat (first | apply R_alloc | apply R_drewN | apply R_drew)); exact HO_6.out⟩, ⟨by (with_reducible repeat (first | apply R_alloc | apply R_drewN | apply R_drew)); exact HO_7.out⟩, ⟨by (with_reducible repeat (first | refine blk_drewN ?_ _ | refine blk_drew ?_ | refine blk_alloc ?_ _)); exact BK312.out⟩, ⟨by repeat (first | (with_reducible first | exact HB.out | apply below_alloc | apply pw_below_drewN | apply below_drew1 | refine below_set ?_ GE312.out) | exact HB.out)⟩⟩
    rw [if_neg c15] at H
    have c15b0 : decide (x8_2 < (x3_1.length : Int)) = false := decide_eq_false c15
    clear c15
    by_cases c34 : x4_1.length < 5864062014805
    rotate_left
    · rw [if_neg c34] at H
      exact absurd H (by simp)
    rw [if_pos c34] at H
    have LMc34 := Aside0.mk c34
    clear c34
    obtain ⟨y327, hy327⟩ : ∃ y_ : List (List Bool), y_ = (x4_1 ++ [x7_2]) := ⟨_, rfl⟩
    replace H : (fettleref06_Dominates.l0 k2 x3_1 y327 (wrap64 (x5_1 + 1)) a0_0 a0_1 l0_2 l0_3) = some r := by first | (rw [hy327]; with_reducible exact H) | (have H2_ := (Option.bind_some _ _).symm.trans H; rw [hy327]; with_reducible exact H2_) | exact H
    have Ny327 := Aside0.mk hy327
    clear hy327
    have H' := Aside0.mk H
    clear H
    obtain ⟨Ao36, co36, eo36⟩ := Kd.R_slice HO_7.out
    subst eo36
    go_wp2_with (first | ((with_reducible refine gate_builtin (b := .append) (xs := #[.tmp 48, .tmp 50]) rfl ?_); at_builtin; refine Kd.S_append (Kd.slice 4 Kd.bool) (w0 := w) w.heap.size rfl (.tmp 48) (.tmp 50) 30 34 (.slice none 0 0) 24 rfl Try.underlying30 info34 rfl (by decide) (by omega) u4 x4_1 x7_2 [.slice Ao36 x7_2.length co36] (fun k_ => some k_ ≠ (.slice Ao10 x3_1.length co10 : Value).ownBlock ∧ some k_ ≠ (v317 : Value).ownBlock) (fun k_ => some k_ = (.slice Ao36 x7_2.length co36 : Value).ownBlock) rfl rfl ?aP (fun k_ hk_ => ((R_mono (ok' := fun k_ => ((fun k_ => some k_ ≠ (.slice Ao10 x3_1.length co10 : Value).ownBlock ∧ some k_ ≠ (v317 : Value).ownBlock)) k_ ∧ some k_ ≠ (u4 : Value).ownBlock) (Kd.R_apart' (HO_7.out) (Kd.S_typed HO_4.out) (by decide)) (fun k_ hk => ⟨⟨hk.1.1, hk.1.2⟩, hk.2⟩))).1 k_ hk_.symm) ?aF ?aO ?aB ?aS ?aL ?_; (case aP => exact Kd.M_row (R_mono (Kd.R_tight rfl (R_mono (ok' := fun k_ => ((fun k_ => some k_ ≠ (.slice Ao10 x3_1.length co10 : Value).ownBlock ∧ some k_ ≠ (v317 : Value).ownBlock)) k_ ∧ some k_ ≠ (u4 : Value).ownBlock) (Kd.R_apart' (HO_7.out) (Kd.S_typed HO_4.out) (by decide)) (fun k_ hk => ⟨⟨hk.1.1, hk.1.2⟩, hk.2⟩))) (fun _ h_ => h_))); (case aB => exact (by repeat with_reducible first | exact HB.out | apply below_alloc | apply pw_below_drewN | apply below_drew1 | refine below_set ?_ GE312.out)); (case aF => exact (fun k_ hk => ⟨Kd.fresh' (R_lt (by (with_reducible repeat (first | apply R_alloc | apply R_drewN | apply R_drew)); exact HO_3.out)) k_ hk, Kd.fresh' (R_lt (by (with_reducible repeat (first | apply R_alloc | apply R_drewN | apply R_drew)); exact HO_6.out)) k_ hk⟩)); (case aO => exact (by (with_reducible repeat (first | apply S_alloc | apply S_drewN | apply S_drew)); exact S_mono HO_4.out (fun k_ hk => ⟨⟨hk.1, hk.2.1⟩, fun e_ => hk.2.2 e_⟩))); (case aS => exact (below_size (by repeat with_reducible first | exact HB.out | apply below_alloc | apply pw_below_drewN | apply below_drew1 | refine below_set ?_ GE312.out))); (case aL => have := LMc34.out; omega); intro v328 w35 ho hb hg hat; rw [← Ny327.out] at ho; have n0_ := Aside0.mk (Kd.R_over' (by (with_reducible repeat (first | apply R_alloc | apply R_drewN | apply R_drew)); exact HO_3.out) (Kd.S_typed (by (with_reducible repeat (first | apply S_alloc | apply S_drewN | apply S_drew)); exact HO_4.out)) (by decide) hg); have n1_ := Aside0.mk (Kd.R_over' (by (with_reducible repeat (first | apply R_alloc | apply R_drewN | apply R_drew)); exact HO_6.out) (Kd.S_typed (by (with_reducible repeat (first | apply S_alloc | apply S_drewN | apply S_drew)); exact HO_4.out)) (by decide) hg); have n2_ := Aside0.mk (blk_grown (g := gb312) (o := .cells #[.int .i64 a0_0, .int .i64 a0_1, .slice A0_2 l0_2.length c0_2, .slice A0_3 l0_3.length c0_3] 25 (0, 0)) (by (with_reducible repeat (first | refine blk_drewN ?_ _ | refine blk_drew ?_ | refine blk_alloc ?_ _)); exact BK312.out) hg (Kd.S_ne HO_4.out BK312.out (by decide))); have n3_ := Aside0.mk (hb); have n4_ := Aside0.mk (ho); clear HO_3; clear HO_6; clear BK312; clear HB; clear HO_4; clear HO_7; have HO_3 := n0_; have HO_6 := n1_; have BK312 := n2_; have HB := n3_; have HO329 := n4_; clear n0_ n1_ n2_ n3_ n4_; clear ho hb hg hat))
    go_roundg k2
    case measure => have := HK1.out; have := HK2.out; omega
    case rel => exact ⟨(x3_1), (y327), (wrap64 (x5_1 + 1)), (by first | rfl | (simp; done) | (simp [*]; done)), H', ⟨by have := HK1.out; have := HK2.out; omega⟩, ⟨by (with_reducible repeat (first | apply R_alloc | apply R_drewN | apply R_drew)); exact R_mono HO_3.out (fun _ hk => trivial)⟩, ⟨by (with_reducible repeat (first | apply S_alloc | apply S_drewN | apply S_drew)); exact S_mono HO329.out (fun _ hk => hk.1)⟩, ⟨by (with_reducible repeat (first | refine blk_drewN ?_ _ | refine blk_drew ?_ | refine blk_alloc ?_ _)); exact BK312.out⟩, ⟨by repeat (first | (with_reducible first | exact HB.out | apply below_alloc | apply pw_below_drewN | apply below_drew1 | refine below_set ?_ GE312.out) | exact HB.out)⟩⟩
  rw [if_neg c6] at H
  have c6b0 : decide (x5_1 < (x3_1.length : Int)) = false := decide_eq_false c6
  clear c6
  obtain rfl := Option.some.inj H
  obtain ⟨Ao37, co37, eo37⟩ := Kd.R_slice HO_3.out
  subst eo37
  go_wp2
  go_ret
  exact ⟨_, by first | rfl | (simp [errW_none, errW_some] <;> rfl) | (simp [*, errW_none, errW_some] <;> rfl), by (with_reducible repeat (first | apply S_alloc | apply S_drewN | apply S_drew)); exact S_mono HO_4.out (fun _ hk => trivial), by repeat (first | (with_reducible first | exact HB.out | apply below_alloc | apply pw_below_drewN | apply below_drew1 | refine below_set ?_ GE312.out) | exact HB.out)⟩

/-! ### fettleref05_Leads: function 33 -/
def fettleref05_Leads.l0 : Nat → Int → Int → Int → Int → Int → List Int → List (S52) → Option (Bool)
  | 0, _, _, _, _, _, _, _ => none
  | k + 1, x1, x2, x7, x331000, x331001, x331002, x331003 => if 0 ≤ x1 then (if x1 < (x331003.length : Int) then (if x7 < (((rd_T52 x331003 x1).f2.f2).length : Int) then (if 0 ≤ x7 then (if (rd ((rd_T52 x331003 x1).f2.f2) x7) = x2 then (some true) else (fettleref05_Leads.l0 k x1 x2 (wrap64 (x7 + 1)) x331000 x331001 x331002 x331003)) else (none)) else (some false)) else (none)) else (none)
def fettleref05_Leads.f (k : Nat) (a0_0 : Int) (a0_1 : Int) (l0_2 : List Int) (l0_3 : List (S52)) (a1 : Int) (a2 : Int) : Option (Bool) := fettleref05_Leads.l0 k a1 a2 0 a0_0 a0_1 l0_2 l0_3
theorem fettleref05_Leads.mono_l : ∀ k, (∀ y0 y1 y2 y3 y4 y5 y6, LeO (fettleref05_Leads.l0 k y0 y1 y2 y3 y4 y5 y6) (fettleref05_Leads.l0 (k + 1) y0 y1 y2 y3 y4 y5 y6))
  | 0 => fun _ _ _ _ _ _ _ r h => by simp [fettleref05_Leads.l0] at h
  | k + 1 => by
    have ih0 := fettleref05_Leads.mono_l k
    · intro y0 y1 y2 y3 y4 y5 y6
      unfold fettleref05_Leads.l0
      repeat' first
      | (with_reducible exact ih0 _ _ _ _ _ _ _)
      | (with_reducible exact LeO.refl _)
      | (with_reducible exact LeO.none _)
      | (with_reducible refine LeO.ite ?_ ?_)
      | (with_reducible refine LeO.bind ?_ (fun _ => ?_))
      | exact ih0 _ _ _ _ _ _ _
      | exact LeO.none _
      | refine LeO.ite ?_ ?_
      | refine LeO.bind ?_ (fun _ => ?_)
theorem fettleref05_Leads.mono : ∀ a0 a1 a2 a3 a4 a5 k, LeO (fettleref05_Leads.f k a0 a1 a2 a3 a4 a5) (fettleref05_Leads.f (k + 1) a0 a1 a2 a3 a4 a5) := by
  intro a0 a1 a2 a3 a4 a5 k
  have ih0 := fettleref05_Leads.mono_l k
  unfold fettleref05_Leads.f
  repeat' first
      | (with_reducible exact ih0 _ _ _ _ _ _ _)
      | (with_reducible exact LeO.refl _)
      | (with_reducible exact LeO.none _)
      | (with_reducible refine LeO.ite ?_ ?_)
      | (with_reducible refine LeO.bind ?_ (fun _ => ?_))
      | exact ih0 _ _ _ _ _ _ _
      | exact LeO.none _
      | refine LeO.ite ?_ ?_
      | refine LeO.bind ?_ (fun _ => ?_)
set_option maxHeartbeats 8000000 in
set_option maxRecDepth 100000 in
theorem fettleref05_Leads.calls (k : Nat) (a0_0 : Int) (a0_1 : Int) (A0_2 : Option Addr) (c0_2 : Nat) (l0_2 : List Int) (A0_3 : Option Addr) (c0_3 : Nat) (l0_3 : List (S52)) (a1 : Int) (a2 : Int) (r : Bool) (w : World) (hr0_2 : Kd.C (Kd.int .i64) w A0_2 l0_2.length l0_2) (hc0_2 : l0_2.length ≤ c0_2) (hr0_3 : Kd.C k52 w A0_3 l0_3.length l0_3) (hc0_3 : l0_3.length ≤ c0_3) (h : fettleref05_Leads.f k a0_0 a0_1 l0_2 l0_3 a1 a2 = some r) :
    Calls Try.prog 33 #[.agg #[.int .i64 a0_0, .int .i64 a0_1, .slice A0_2 l0_2.length c0_2, .slice A0_3 l0_3.length c0_3], .int .i64 a1, .int .i64 a2] w fun e w' => e = .returned (.bool r) ∧ Below w.heap.size w w' := by
  have hu25 := Try.underlying25
  have HR0_2 := Aside0.mk hr0_2
  have HC0_2 := Aside0.mk hc0_2
  clear hr0_2 hc0_2
  have HR0_3 := Aside0.mk hr0_3
  have HC0_3 := Aside0.mk hc0_3
  clear hr0_3 hc0_3
  have HB := Aside0.mk (Below.refl w.heap.size w)
  have H : (fettleref05_Leads.l0 k a1 a2 0 a0_0 a0_1 l0_2 l0_3) = some r := h
  clear h
  have H' := Aside0.mk H
  clear H
  go_enter Try.func33, Try.ntmps33
  go_wp2_with (first | ((with_reducible refine gate_dst (N := 3) rfl ?_); refine box_event ?hg (N := 3) ?hd (cs := #[.int .i64 a0_0, .int .i64 a0_1, .slice A0_2 l0_2.length c0_2, .slice A0_3 l0_3.length c0_3]) (t := 25) ?hr ?_; (case hd => rfl); (case hg => rfl); (case hr => first | (go_simp; done) | (go_simp; rfl)); intro gb330 hg w4 hbox hb; have n0_ := Aside0.mk (below_step (by repeat with_reducible first | exact HB.out | apply below_alloc | apply pw_below_drewN | apply below_drew1) hb); have n1_ := Aside0.mk (hbox); have n2_ := Aside0.mk ((by rw [hg]; exact (below_size (by repeat with_reducible first | exact HB.out | apply below_alloc | apply pw_below_drewN | apply below_drew1)) : w.heap.size ≤ gb330)); have n3_ := Aside0.mk ((by rw [hg]; exact (below_size (by repeat with_reducible first | exact HB.out | apply below_alloc | apply pw_below_drewN | apply below_drew1)) : w.heap.size ≤ gb330)); clear HB; have HB := n0_; have BK330 := n1_; have GW330 := n2_; have GE330 := n3_; clear n0_ n1_ n2_ n3_; clear hb hbox hg))
  go_loopg [7] k (fun kq v7 w' => ∃ (x7_1 : Int), v7 = .int .i64 x7_1 ∧ Aside0 (fettleref05_Leads.l0 kq a1 a2 x7_1 a0_0 a0_1 l0_2 l0_3 = some r) ∧ Aside0 (kq ≤ k) ∧ Aside0 (w'.heap[gb330]? = some (.cells #[.int .i64 a0_0, .int .i64 a0_1, (.slice A0_2 l0_2.length c0_2), (.slice A0_3 l0_3.length c0_3)] 25 (0, 0))) ∧ Aside0 (Below w.heap.size w w'))
  case atStart => exact ⟨(0), (by first | rfl | (simp; done) | (simp [*]; done)), H', ⟨Nat.le_refl _⟩, ⟨by (with_reducible repeat (first | refine blk_drewN ?_ _ | refine blk_drew ?_ | refine blk_alloc ?_ _)); exact BK330.out⟩, ⟨by repeat (first | (with_reducible first | exact HB.out | apply below_alloc | apply pw_below_drewN | apply below_drew1 | refine below_set ?_ GE330.out) | exact HB.out)⟩⟩
  clear H'
  try clear p2
  try clear c3
  obtain ⟨x7_1, rfl, HA, HK1, BK330, HB⟩ := hrel
  rcases gk with _ | k1
  · exact absurd HA.out (by simp [fettleref05_Leads.l0])
  have H := HA.out
  clear HA
  simp only [fettleref05_Leads.l0] at H
  by_cases c5 : 0 ≤ a1
  rotate_left
  · rw [if_neg c5] at H
    exact absurd H (by simp)


  rw [if_pos c5] at H
  have c5b0 : decide (0 ≤ a1) = true := decide_eq_true c5
  clear c5
  by_cases c6 : a1 < (l0_3.length : Int)
  rotate_left
  · rw [if_neg c6] at H
    exact absurd H (by simp)
  rw [if_pos c6] at H
  have c6b0 : decide (a1 < (l0_3.length : Int)) = true := decide_eq_true c6
  clear c6
  by_cases c7 : x7_1 < (((rd_T52 l0_3 a1).f2.f2).length : Int)
  · rw [if_pos c7] at H
    have c7b0 : decide (x7_1 < (((rd_T52 l0_3 a1).f2.f2).length : Int)) = true := decide_eq_true c7
    clear c7
    by_cases c8 : 0 ≤ x7_1
    rotate_left
    · rw [if_neg c8] at H
      exact absurd H (by simp)
    rw [if_pos c8] at H
    have c8b0 : decide (0 ≤ x7_1) = true := decide_eq_true c8
    clear c8
    by_cases c9 : (rd ((rd_T52 l0_3 a1).f2.f2) x7_1) = a2
    · rw [if_pos c9] at H
      have c9b0 : ((rd ((rd_T52 l0_3 a1).f2.f2) x7_1) == a2) = true := beq_iff_eq.mpr c9
      have c9b1 : ((rd ((rd_T52 l0_3 a1).f2.f2) x7_1) != a2) = false := bne_eq_false_iff_eq.mpr c9
      clear c9
      obtain rfl := Option.some.inj H
      have hcz10_0 : wr.cell? ⟨gb330, 0, none⟩ = some (.int .i64 a0_0) := (blk_cell BK330.out 0).trans rfl
      have hcz10_1 : wr.cell? ⟨gb330, 1, none⟩ = some (.int .i64 a0_1) := (blk_cell BK330.out 1).trans rfl
      have hcz10_2 : wr.cell? ⟨gb330, 2, none⟩ = some (.slice A0_2 l0_2.length c0_2) := (blk_cell BK330.out 2).trans rfl
      have hcz10_3 : wr.cell? ⟨gb330, 3, none⟩ = some (.slice A0_3 l0_3.length c0_3) := (blk_cell BK330.out 3).trans rfl
      have hfz10_0 := blk_frozen BK330.out 0
      have hfz10_1 := blk_frozen BK330.out 1
      have hfz10_2 := blk_frozen BK330.out 2
      have hfz10_3 := blk_frozen BK330.out 3
      have p331 : 0 ≤ (a1 : Int) := of_decide_eq_true (by with_reducible assumption)
      have q331 : a1 < (l0_3.length : Int) := of_decide_eq_true (by with_reducible assumption)
      obtain ⟨ad331, A331_0, c331_0, A331_1, c331_1, A331_4, c331_4, e331, hx331_0, hx331_1, hx331_2, hx331_3, hx331_4, hl331_0, hi331_0, hl331_1, hi331_1, hl331_4, hi331_4⟩ := at_T52 HR0_3.out a1 p331 q331
      cases e331
      replace hx331_0 := (HB.out.cell (World.block_lt_of_cell? w _ hx331_0)).trans hx331_0
      replace hx331_1 := (HB.out.cell (World.block_lt_of_cell? w _ hx331_1)).trans hx331_1
      replace hx331_2 := (HB.out.cell (World.block_lt_of_cell? w _ hx331_2)).trans hx331_2
      replace hx331_3 := (HB.out.cell (World.block_lt_of_cell? w _ hx331_3)).trans hx331_3
      replace hx331_4 := (HB.out.cell (World.block_lt_of_cell? w _ hx331_4)).trans hx331_4
      have HR331_0 := Aside0.mk hi331_0
      have HC331_0 := Aside0.mk hl331_0
      clear hi331_0 hl331_0
      have HR331_1 := Aside0.mk hi331_1
      have HC331_1 := Aside0.mk hl331_1
      clear hi331_1 hl331_1
      have HR331_4 := Aside0.mk hi331_4
      have HC331_4 := Aside0.mk hl331_4
      clear hi331_4 hl331_4
      replace p331 := eq_true p331
      replace q331 := eq_true q331
      have p332 : 0 ≤ (a1 : Int) := of_decide_eq_true (by with_reducible assumption)
      have q332 : a1 < (l0_3.length : Int) := of_decide_eq_true (by with_reducible assumption)
      obtain ⟨ad332, A332_0, c332_0, A332_1, c332_1, A332_4, c332_4, e332, hx332_0, hx332_1, hx332_2, hx332_3, hx332_4, hl332_0, hi332_0, hl332_1, hi332_1, hl332_4, hi332_4⟩ := at_T52 HR0_3.out a1 p332 q332
      obtain rfl : ad331 = ad332 := (by injection e332)
      replace hx332_0 := (HB.out.cell (World.block_lt_of_cell? w _ hx332_0)).trans hx332_0
      replace hx332_1 := (HB.out.cell (World.block_lt_of_cell? w _ hx332_1)).trans hx332_1
      replace hx332_2 := (HB.out.cell (World.block_lt_of_cell? w _ hx332_2)).trans hx332_2
      replace hx332_3 := (HB.out.cell (World.block_lt_of_cell? w _ hx332_3)).trans hx332_3
      replace hx332_4 := (HB.out.cell (World.block_lt_of_cell? w _ hx332_4)).trans hx332_4
      have HR332_0 := Aside0.mk hi332_0
      have HC332_0 := Aside0.mk hl332_0
      clear hi332_0 hl332_0
      have HR332_1 := Aside0.mk hi332_1
      have HC332_1 := Aside0.mk hl332_1
      clear hi332_1 hl332_1
      have HR332_4 := Aside0.mk hi332_4
      have HC332_4 := Aside0.mk hl332_4
      clear hi332_4 hl332_4
      replace p332 := eq_true p332
      replace q332 := eq_true q332
      have ea_ := Option.some.inj (hx331_0.symm.trans hx332_0)
      injection ea_ with ea_ en_ ec_
      subst ea_
      subst ec_
      clear en_
      have ea_ := Option.some.inj (hx331_1.symm.trans hx332_1)
      injection ea_ with ea_ en_ ec_
      subst ea_
      subst ec_
      clear en_
      have ea_ := Option.some.inj (hx331_4.symm.trans hx332_4)
      injection ea_ with ea_ en_ ec_
      subst ea_
      subst ec_
      clear en_
      have p333 : 0 ≤ (x7_1 : Int) := of_decide_eq_true (by with_reducible assumption)
      have q333 : x7_1 < (((rd_T52 l0_3 a1).f2.f2).length : Int) := of_decide_eq_true (by with_reducible assumption)
      obtain ⟨ad333, e333, hx333_0⟩ := Kd.at_int HR332_4.out x7_1 p333 q333
      cases e333
      replace hx333_0 := (HB.out.cell (World.block_lt_of_cell? w _ hx333_0)).trans hx333_0
      replace p333 := eq_true p333
      replace q333 := eq_true q333
      go_wp2
      go_ret
      exact ⟨by first | rfl | (simp [errW_none, errW_some] <;> rfl) | (simp [*, errW_none, errW_some] <;> rfl), by repeat (first | (with_reducible first | exact HB.out | apply below_alloc | apply pw_below_drewN | apply below_drew1 | refine below_set ?_ GE330.out) | exact HB.out)⟩
    rw [if_neg c9] at H
    have c9b0 : ((rd ((rd_T52 l0_3 a1).f2.f2) x7_1) == a2) = false := beq_eq_false_iff_ne.mpr c9
    have c9b1 : ((rd ((rd_T52 l0_3 a1).f2.f2) x7_1) != a2) = true := bne_iff_ne.mpr c9
    have H' := Aside0.mk H
    clear H
    have hcz11_0 : wr.cell? ⟨gb330, 0, none⟩ = some (.int .i64 a0_0) := (blk_cell BK330.out 0).trans rfl
    have hcz11_1 : wr.cell? ⟨gb330, 1, none⟩ = some (.int .i64 a0_1) := (blk_cell BK330.out 1).trans rfl
    have hcz11_2 : wr.cell? ⟨gb330, 2, none⟩ = some (.slice A0_2 l0_2.length c0_2) := (blk_cell BK330.out 2).trans rfl
    have hcz11_3 : wr.cell? ⟨gb330, 3, none⟩ = some (.slice A0_3 l0_3.length c0_3) := (blk_cell BK330.out 3).trans rfl
    have hfz11_0 := blk_frozen BK330.out 0
    have hfz11_1 := blk_frozen BK330.out 1
    have hfz11_2 := blk_frozen BK330.out 2
    have hfz11_3 := blk_frozen BK330.out 3
    have p331 : 0 ≤ (a1 : Int) := of_decide_eq_true (by with_reducible assumption)
    have q331 : a1 < (l0_3.length : Int) := of_decide_eq_true (by with_reducible assumption)
    obtain ⟨ad331, A331_0, c331_0, A331_1, c331_1, A331_4, c331_4, e331, hx331_0, hx331_1, hx331_2, hx331_3, hx331_4, hl331_0, hi331_0, hl331_1, hi331_1, hl331_4, hi331_4⟩ := at_T52 HR0_3.out a1 p331 q331
    cases e331
    replace hx331_0 := (HB.out.cell (World.block_lt_of_cell? w _ hx331_0)).trans hx331_0
    replace hx331_1 := (HB.out.cell (World.block_lt_of_cell? w _ hx331_1)).trans hx331_1
    replace hx331_2 := (HB.out.cell (World.block_lt_of_cell? w _ hx331_2)).trans hx331_2
    replace hx331_3 := (HB.out.cell (World.block_lt_of_cell? w _ hx331_3)).trans hx331_3
    replace hx331_4 := (HB.out.cell (World.block_lt_of_cell? w _ hx331_4)).trans hx331_4
    have HR331_0 := Aside0.mk hi331_0
    have HC331_0 := Aside0.mk hl331_0
    clear hi331_0 hl331_0
    have HR331_1 := Aside0.mk hi331_1
    have HC331_1 := Aside0.mk hl331_1
    clear hi331_1 hl331_1
    have HR331_4 := Aside0.mk hi331_4
    have HC331_4 := Aside0.mk hl331_4
    clear hi331_4 hl331_4
    replace p331 := eq_true p331
    replace q331 := eq_true q331
    have p332 : 0 ≤ (a1 : Int) := of_decide_eq_true (by with_reducible assumption)
    have q332 : a1 < (l0_3.length : Int) := of_decide_eq_true (by with_reducible assumption)
    obtain ⟨ad332, A332_0, c332_0, A332_1, c332_1, A332_4, c332_4, e332, hx332_0, hx332_1, hx332_2, hx332_3, hx332_4, hl332_0, hi332_0, hl332_1, hi332_1, hl332_4, hi332_4⟩ := at_T52 HR0_3.out a1 p332 q332
    obtain rfl : ad331 = ad332 := (by injection e332)
    replace hx332_0 := (HB.out.cell (World.block_lt_of_cell? w _ hx332_0)).trans hx332_0
    replace hx332_1 := (HB.out.cell (World.block_lt_of_cell? w _ hx332_1)).trans hx332_1
    replace hx332_2 := (HB.out.cell (World.block_lt_of_cell? w _ hx332_2)).trans hx332_2
    replace hx332_3 := (HB.out.cell (World.block_lt_of_cell? w _ hx332_3)).trans hx332_3
    replace hx332_4 := (HB.out.cell (World.block_lt_of_cell? w _ hx332_4)).trans hx332_4
    have HR332_0 := Aside0.mk hi332_0
    have HC332_0 := Aside0.mk hl332_0
    clear hi332_0 hl332_0
    have HR332_1 := Aside0.mk hi332_1
    have HC332_1 := Aside0.mk hl332_1
    clear hi332_1 hl332_1
    have HR332_4 := Aside0.mk hi332_4
    have HC332_4 := Aside0.mk hl332_4
    clear hi332_4 hl332_4
    replace p332 := eq_true p332
    replace q332 := eq_true q332
    have ea_ := Option.some.inj (hx331_0.symm.trans hx332_0)
    injection ea_ with ea_ en_ ec_
    subst ea_
    subst ec_
    clear en_
    have ea_ := Option.some.inj (hx331_1.symm.trans hx332_1)
    injection ea_ with ea_ en_ ec_
    subst ea_
    subst ec_
    clear en_
    have ea_ := Option.some.inj (hx331_4.symm.trans hx332_4)
    injection ea_ with ea_ en_ ec_
    subst ea_
    subst ec_
    clear en_
    have p333 : 0 ≤ (x7_1 : Int) := of_decide_eq_true (by with_reducible assumption)
    have q333 : x7_1 < (((rd_T52 l0_3 a1).f2.f2).length : Int) := of_decide_eq_true (by with_reducible assumption)
    obtain ⟨ad333, e333, hx333_0⟩ := Kd.at_int HR332_4.out x7_1 p333 q333
    cases e333
    replace hx333_0 := (HB.out.cell (World.block_lt_of_cell? w _ hx333_0)).trans hx333_0
    replace p333 := eq_true p333
    replace q333 := eq_true q333
    go_wp2
    go_roundg k1
    case measure => have := HK1.out; omega
    case rel => exact ⟨(wrap64 (x7_1 + 1)), (by first | rfl | (simp; done) | (simp [*]; done)), H', ⟨by have := HK1.out; omega⟩, ⟨by (with_reducible repeat (first | refine blk_drewN ?_ _ | refine blk_drew ?_ | refine blk_alloc ?_ _)); exact BK330.out⟩, ⟨by repeat (first | (with_reducible first | exact HB.out | apply below_alloc | apply pw_below_drewN | apply below_drew1 | refine below_set ?_ GE330.out) | exact HB.out)⟩⟩
  rw [if_neg c7] at H
  have c7b0 : decide (x7_1 < (((rd_T52 l0_3 a1).f2.f2).length : Int)) = false := decide_eq_false c7
  clear c7
  obtain rfl := Option.some.inj H
  have hcz12_0 : wr.cell? ⟨gb330, 0, none⟩ = some (.int .i64 a0_0) := (blk_cell BK330.out 0).trans rfl
  have hcz12_1 : wr.cell? ⟨gb330, 1, none⟩ = some (.int .i64 a0_1) := (blk_cell BK330.out 1).trans rfl
  have hcz12_2 : wr.cell? ⟨gb330, 2, none⟩ = some (.slice A0_2 l0_2.length c0_2) := (blk_cell BK330.out 2).trans rfl
  have hcz12_3 : wr.cell? ⟨gb330, 3, none⟩ = some (.slice A0_3 l0_3.length c0_3) := (blk_cell BK330.out 3).trans rfl
  have hfz12_0 := blk_frozen BK330.out 0
  have hfz12_1 := blk_frozen BK330.out 1
  have hfz12_2 := blk_frozen BK330.out 2
  have hfz12_3 := blk_frozen BK330.out 3
  have p331 : 0 ≤ (a1 : Int) := of_decide_eq_true (by with_reducible assumption)
  have q331 : a1 < (l0_3.length : Int) := of_decide_eq_true (by with_reducible assumption)
  obtain ⟨ad331, A331_0, c331_0, A331_1, c331_1, A331_4, c331_4, e331, hx331_0, hx331_1, hx331_2, hx331_3, hx331_4, hl331_0, hi331_0, hl331_1, hi331_1, hl331_4, hi331_4⟩ := at_T52 HR0_3.out a1 p331 q331
  cases e331
  replace hx331_0 := (HB.out.cell (World.block_lt_of_cell? w _ hx331_0)).trans hx331_0
  replace hx331_1 := (HB.out.cell (World.block_lt_of_cell? w _ hx331_1)).trans hx331_1
  replace hx331_2 := (HB.out.cell (World.block_lt_of_cell? w _ hx331_2)).trans hx331_2
  replace hx331_3 := (HB.out.cell (World.block_lt_of_cell? w _ hx331_3)).trans hx331_3
  replace hx331_4 := (HB.out.cell (World.block_lt_of_cell? w _ hx331_4)).trans hx331_4
  have HR331_0 := Aside0.mk hi331_0
  have HC331_0 := Aside0.mk hl331_0
  clear hi331_0 hl331_0
  have HR331_1 := Aside0.mk hi331_1
  have HC331_1 := Aside0.mk hl331_1
  clear hi331_1 hl331_1
  have HR331_4 := Aside0.mk hi331_4
  have HC331_4 := Aside0.mk hl331_4
  clear hi331_4 hl331_4
  replace p331 := eq_true p331
  replace q331 := eq_true q331
  go_wp2
  go_ret
  exact ⟨by first | rfl | (simp [errW_none, errW_some] <;> rfl) | (simp [*, errW_none, errW_some] <;> rfl), by repeat (first | (with_reducible first | exact HB.out | apply below_alloc | apply pw_below_drewN | apply below_drew1 | refine below_set ?_ GE330.out) | exact HB.out)⟩end Go.Proofs.Ytpionncanaamgaa.PDomFrontiers
