-- Laid by a program of this session (wip/pp/patch.py over the kit's print).
import Derived.Test.YtpionncanaamgaaPDomFrontiersx0
import Derived.Test.YtpionncanaamgaaPDomFrontiersx11
namespace Go.Proofs.Ytpionncanaamgaa.PDomFrontiers
open Go.RowKit Go.Proofs.YtpionncanaamgaaW.PrintWords Go.Proofs.YtpionncanaamgaaW.PrintLast Go.Proofs.YtpionncanaamgaaW.PrintMore Go.Proofs.YtpionncanaamgaaW.PrintWords.Kd
attribute [local go_sem] max2_int min2_int max_two min_two max_three min_three max_four min_four   -- for this text's walks alone
set_option linter.unusedVariables false
set_option linter.unusedSimpArgs false

/-! ### fettleref06_Frontier: function 16 -/
mutual
def fettleref06_Frontier.l0 : Nat → List (List Bool) → Int → List Int → Int → Int → Int → List Int → List (S52) → Option (List Int)
  | 0, _, _, _, _, _, _, _, _ => none
  | k + 1, x1, x2, x7, x8, x335000, x335001, x335002, x335003 => if x8 < (x1.length : Int) then (fettleref06_Frontier.l1 k x1 x2 x7 x8 false 0 x335000 x335001 x335002 x335003) else (some x7)
def fettleref06_Frontier.l1 : Nat → List (List Bool) → Int → List Int → Int → Bool → Int → Int → Int → List Int → List (S52) → Option (List Int)
  | 0, _, _, _, _, _, _, _, _, _, _ => none
  | k + 1, x1, x2, x7, x8, x9, x10, x335000, x335001, x335002, x335003 => if x10 < (x1.length : Int) then (if x9 = true then (fettleref06_Frontier.l1 k x1 x2 x7 x8 true (wrap64 (x10 + 1)) x335000 x335001 x335002 x335003) else (if 0 ≤ x2 then (if x2 < (x1.length : Int) then (if 0 ≤ x10 then (if x10 < ((rd_L11 x1 x2).length : Int) then (if rdOf false (rd_L11 x1 x2) x10 = true then ((fettleref05_Leads.f k x335000 x335001 x335002 x335003 x10 x8).bind fun t337 => (fettleref06_Frontier.l1 k x1 x2 x7 x8 t337 (wrap64 (x10 + 1)) x335000 x335001 x335002 x335003)) else (fettleref06_Frontier.l1 k x1 x2 x7 x8 false (wrap64 (x10 + 1)) x335000 x335001 x335002 x335003)) else (none)) else (none)) else (none)) else (none))) else (if x9 = true then (if x2 = x8 then (if x7.length < 17592186044416 then (fettleref06_Frontier.l0 k x1 x2 (x7 ++ [x8]) (wrap64 (x8 + 1)) x335000 x335001 x335002 x335003) else (none)) else (if 0 ≤ x2 then (if x2 < (x1.length : Int) then (if 0 ≤ x8 then (if x8 < ((rd_L11 x1 x2).length : Int) then (if (rdOf false (rd_L11 x1 x2) x8 = true) then (fettleref06_Frontier.l0 k x1 x2 x7 (wrap64 (x8 + 1)) x335000 x335001 x335002 x335003) else (if x7.length < 17592186044416 then (fettleref06_Frontier.l0 k x1 x2 (x7 ++ [x8]) (wrap64 (x8 + 1)) x335000 x335001 x335002 x335003) else (none))) else (none)) else (none)) else (none)) else (none))) else (fettleref06_Frontier.l0 k x1 x2 x7 (wrap64 (x8 + 1)) x335000 x335001 x335002 x335003))
end
def fettleref06_Frontier.f (k : Nat) (a0_0 : Int) (a0_1 : Int) (l0_2 : List Int) (l0_3 : List (S52)) (l1 : List (List Bool)) (a2 : Int) : Option (List Int) := fettleref06_Frontier.l0 k l1 a2 ([] : List Int) 0 a0_0 a0_1 l0_2 l0_3
theorem fettleref06_Frontier.mono_l : ∀ k, (∀ y0 y1 y2 y3 y4 y5 y6 y7, LeO (fettleref06_Frontier.l0 k y0 y1 y2 y3 y4 y5 y6 y7) (fettleref06_Frontier.l0 (k + 1) y0 y1 y2 y3 y4 y5 y6 y7)) ∧ (∀ y0 y1 y2 y3 y4 y5 y6 y7 y8 y9, LeO (fettleref06_Frontier.l1 k y0 y1 y2 y3 y4 y5 y6 y7 y8 y9) (fettleref06_Frontier.l1 (k + 1) y0 y1 y2 y3 y4 y5 y6 y7 y8 y9))
  | 0 => ⟨fun _ _ _ _ _ _ _ _ r h => by simp [fettleref06_Frontier.l0] at h, fun _ _ _ _ _ _ _ _ _ _ r h => by simp [fettleref06_Frontier.l1] at h⟩
  | k + 1 => by
    obtain ⟨ih0, ih1⟩ := fettleref06_Frontier.mono_l k
    refine ⟨?_, ?_⟩
    · intro y0 y1 y2 y3 y4 y5 y6 y7
      unfold fettleref06_Frontier.l0
      repeat' first
      | (with_reducible exact ih0 _ _ _ _ _ _ _ _)
      | (with_reducible exact ih1 _ _ _ _ _ _ _ _ _ _)
      | (with_reducible exact fettleref05_Leads.mono _ _ _ _ _ _ _)
      | (with_reducible exact LeO.refl _)
      | (with_reducible exact LeO.none _)
      | (with_reducible refine LeO.ite ?_ ?_)
      | (with_reducible refine LeO.bind ?_ (fun _ => ?_))
      | exact ih0 _ _ _ _ _ _ _ _
      | exact ih1 _ _ _ _ _ _ _ _ _ _
      | exact fettleref05_Leads.mono _ _ _ _ _ _ _
      | exact LeO.none _
      | refine LeO.ite ?_ ?_
      | refine LeO.bind ?_ (fun _ => ?_)
    · intro y0 y1 y2 y3 y4 y5 y6 y7 y8 y9
      unfold fettleref06_Frontier.l1
      repeat' first
      | (with_reducible exact ih0 _ _ _ _ _ _ _ _)
      | (with_reducible exact ih1 _ _ _ _ _ _ _ _ _ _)
      | (with_reducible exact fettleref05_Leads.mono _ _ _ _ _ _ _)
      | (with_reducible exact LeO.refl _)
      | (with_reducible exact LeO.none _)
      | (with_reducible refine LeO.ite ?_ ?_)
      | (with_reducible refine LeO.bind ?_ (fun _ => ?_))
      | exact ih0 _ _ _ _ _ _ _ _
      | exact ih1 _ _ _ _ _ _ _ _ _ _
      | exact fettleref05_Leads.mono _ _ _ _ _ _ _
      | exact LeO.none _
      | refine LeO.ite ?_ ?_
      | refine LeO.bind ?_ (fun _ => ?_)
theorem fettleref06_Frontier.mono : ∀ a0 a1 a2 a3 a4 a5 k, LeO (fettleref06_Frontier.f k a0 a1 a2 a3 a4 a5) (fettleref06_Frontier.f (k + 1) a0 a1 a2 a3 a4 a5) := by
  intro a0 a1 a2 a3 a4 a5 k
  obtain ⟨ih0, ih1⟩ := fettleref06_Frontier.mono_l k
  unfold fettleref06_Frontier.f
  repeat' first
      | (with_reducible exact ih0 _ _ _ _ _ _ _ _)
      | (with_reducible exact ih1 _ _ _ _ _ _ _ _ _ _)
      | (with_reducible exact fettleref05_Leads.mono _ _ _ _ _ _ _)
      | (with_reducible exact LeO.refl _)
      | (with_reducible exact LeO.none _)
      | (with_reducible refine LeO.ite ?_ ?_)
      | (with_reducible refine LeO.bind ?_ (fun _ => ?_))
      | exact ih0 _ _ _ _ _ _ _ _
      | exact ih1 _ _ _ _ _ _ _ _ _ _
      | exact fettleref05_Leads.mono _ _ _ _ _ _ _
      | exact LeO.none _
      | refine LeO.ite ?_ ?_
      | refine LeO.bind ?_ (fun _ => ?_)
set_option maxHeartbeats 8000000 in
set_option maxRecDepth 100000 in
theorem fettleref06_Frontier.calls (k : Nat) (a0_0 : Int) (a0_1 : Int) (A0_2 : Option Addr) (c0_2 : Nat) (l0_2 : List Int) (A0_3 : Option Addr) (c0_3 : Nat) (l0_3 : List (S52)) (A1 : Option Addr) (c1 : Nat) (l1 : List (List Bool)) (a2 : Int) (r : List Int) (w : World) (hr0_2 : Kd.C (Kd.int .i64) w A0_2 l0_2.length l0_2) (hc0_2 : l0_2.length ≤ c0_2) (hr0_3 : Kd.C k52 w A0_3 l0_3.length l0_3) (hc0_3 : l0_3.length ≤ c0_3) (hr1 : Kd.C (Kd.slice 4 Kd.bool) w A1 l1.length l1) (hc1 : l1.length ≤ c1) (h : fettleref06_Frontier.f k a0_0 a0_1 l0_2 l0_3 l1 a2 = some r) :
    Calls Try.prog 16 #[.agg #[.int .i64 a0_0, .int .i64 a0_1, .slice A0_2 l0_2.length c0_2, .slice A0_3 l0_3.length c0_3], .slice A1 l1.length c1, .int .i64 a2] w fun e w' => ∃ v0_ : Value, e = .returned (v0_) ∧ Kd.R (Kd.int .i64) 3 w' w.heap.size (fun _ => True) v0_ r ∧ Below w.heap.size w w' := by
  have hu25 := Try.underlying25
  have HR0_2 := Aside0.mk hr0_2
  have HC0_2 := Aside0.mk hc0_2
  clear hr0_2 hc0_2
  have HR0_3 := Aside0.mk hr0_3
  have HC0_3 := Aside0.mk hc0_3
  clear hr0_3 hc0_3
  have HR1 := Aside0.mk hr1
  have HC1 := Aside0.mk hc1
  clear hr1 hc1
  have HB := Aside0.mk (Below.refl w.heap.size w)
  have H : (fettleref06_Frontier.l0 k l1 a2 ([] : List Int) 0 a0_0 a0_1 l0_2 l0_3) = some r := h
  clear h
  have H' := Aside0.mk H
  clear H
  go_enter Try.func16, Try.ntmps16
  go_wp2_with (first | ((with_reducible refine gate_dst (N := 3) rfl ?_); refine box_event ?hg (N := 3) ?hd (cs := #[.int .i64 a0_0, .int .i64 a0_1, .slice A0_2 l0_2.length c0_2, .slice A0_3 l0_3.length c0_3]) (t := 25) ?hr ?_; (case hd => rfl); (case hg => rfl); (case hr => first | (go_simp; done) | (go_simp; rfl)); intro gb334 hg w4 hbox hb; have n0_ := Aside0.mk (below_step (by repeat with_reducible first | exact HB.out | apply below_alloc | apply pw_below_drewN | apply below_drew1) hb); have n1_ := Aside0.mk (hbox); have n2_ := Aside0.mk ((by rw [hg]; exact (below_size (by repeat with_reducible first | exact HB.out | apply below_alloc | apply pw_below_drewN | apply below_drew1)) : w.heap.size ≤ gb334)); have n3_ := Aside0.mk ((by rw [hg]; exact (below_size (by repeat with_reducible first | exact HB.out | apply below_alloc | apply pw_below_drewN | apply below_drew1)) : w.heap.size ≤ gb334)); clear HB; have HB := n0_; have BK334 := n1_; have GW334 := n2_; have GE334 := n3_; clear n0_ n1_ n2_ n3_; clear hb hbox hg))
  go_loopg [7, 8] k (fun kq v7 v8 w' => ∃ (x7_1 : List Int) (x8_1 : Int), v8 = .int .i64 x8_1 ∧ Aside0 (fettleref06_Frontier.l0 kq l1 a2 x7_1 x8_1 a0_0 a0_1 l0_2 l0_3 = some r) ∧ Aside0 (kq ≤ k) ∧ Aside0 (Kd.R (Kd.int .i64) 3 w' w.heap.size (fun _ => True) v7 x7_1) ∧ Aside0 (w'.heap[gb334]? = some (.cells #[.int .i64 a0_0, .int .i64 a0_1, (.slice A0_2 l0_2.length c0_2), (.slice A0_3 l0_3.length c0_3)] 25 (0, 0))) ∧ Aside0 (Below w.heap.size w w'))
  case atStart => exact ⟨(([] : List Int)), (0), (by first | rfl | (simp; done) | (simp [*]; done)), H', ⟨Nat.le_refl _⟩, ⟨by first | exact Kd.R_nil _ _ _ _ _ | exact Kd.N_nil _ _ _ _ _ | exact Kd.V_nil _ _ _ _ _ | exact Kd.Q_nil _ _ _ _ _ | exact Kd.S_nil _ _ _ _ _⟩, ⟨by (with_reducible repeat (first | refine blk_drewN ?_ _ | refine blk_drew ?_ | refine blk_alloc ?_ _)); exact BK334.out⟩, ⟨by repeat (first | (with_reducible first | exact HB.out | apply below_alloc | apply pw_below_drewN | apply below_drew1 | refine below_set ?_ GE334.out) | exact HB.out)⟩⟩
  clear H'
  try clear c1
  try clear p2
  obtain ⟨x7_1, x8_1, rfl, HA, HK1, HO_7, BK334, HB⟩ := hrel
  rcases gk with _ | k1
  · exact absurd HA.out (by simp [fettleref06_Frontier.l0])
  have H := HA.out
  clear HA
  simp only [fettleref06_Frontier.l0] at H
  by_cases c5 : x8_1 < (l1.length : Int)
  · rw [if_pos c5] at H
    have c5b0 : decide (x8_1 < (l1.length : Int)) = true := decide_eq_true c5
    clear c5
    have H' := Aside0.mk H
    clear H
    go_wp2
    go_loopg [9, 10] k1 (fun kq v9 v10 w' => ∃ (x9_2 : Bool) (x10_2 : Int), v9 = .bool x9_2 ∧ v10 = .int .i64 x10_2 ∧ Aside0 (fettleref06_Frontier.l1 kq l1 a2 x7_1 x8_1 x9_2 x10_2 a0_0 a0_1 l0_2 l0_3 = some r) ∧ Aside0 (kq ≤ k1) ∧ Aside0 (Kd.R (Kd.int .i64) 3 w' w.heap.size (fun _ => True) u7 x7_1) ∧ Aside0 (w'.heap[gb334]? = some (.cells #[.int .i64 a0_0, .int .i64 a0_1, (.slice A0_2 l0_2.length c0_2), (.slice A0_3 l0_3.length c0_3)] 25 (0, 0))) ∧ Aside0 (Below w.heap.size w w'))
    case atStart => exact ⟨(false), (0), (by first | rfl | (simp; done) | (simp [*]; done)), (by first | rfl | (simp; done) | (simp [*]; done)), H', ⟨Nat.le_refl _⟩, ⟨by (with_reducible repeat (first | apply R_alloc | apply R_drewN | apply R_drew)); exact HO_7.out⟩, ⟨by (with_reducible repeat (first | refine blk_drewN ?_ _ | refine blk_drew ?_ | refine blk_alloc ?_ _)); exact BK334.out⟩, ⟨by repeat (first | (with_reducible first | exact HB.out | apply below_alloc | apply pw_below_drewN | apply below_drew1 | refine below_set ?_ GE334.out) | exact HB.out)⟩⟩
    clear H'
    try clear c1
    try clear p2
    try clear c5
    try clear c5b0
    try clear p2
    obtain ⟨x9_2, x10_2, rfl, rfl, HA, HK2, HO_7, BK334, HB⟩ := hrel
    rcases gk with _ | k2
    · exact absurd HA.out (by simp [fettleref06_Frontier.l1])
    have H := HA.out
    clear HA
    simp only [fettleref06_Frontier.l1] at H
    by_cases c6 : x10_2 < (l1.length : Int)
    · rw [if_pos c6] at H
      have c6b0 : decide (x10_2 < (l1.length : Int)) = true := decide_eq_true c6
      clear c6
      by_cases c7 : x9_2 = true
      · subst c7
        have H1 : (fettleref06_Frontier.l1 k2 l1 a2 x7_1 x8_1 true (wrap64 (x10_2 + 1)) a0_0 a0_1 l0_2 l0_3) = some r := by rw [if_pos rfl] at H; exact H
        clear H
        have H := H1
        clear H1
        have H' := Aside0.mk H
        clear H
        go_wp2
        go_roundg k2
        case measure => have := HK1.out; have := HK2.out; omega
        case rel => exact ⟨(true), (wrap64 (x10_2 + 1)), (by first | rfl | (simp; done) | (simp [*]; done)), (by first | rfl | (simp; done) | (simp [*]; done)), H', ⟨by have := HK1.out; have := HK2.out; omega⟩, ⟨by (with_reducible repeat (first | apply R_alloc | apply R_drewN | apply R_drew)); exact HO_7.out⟩, ⟨by (with_reducible repeat (first | refine blk_drewN ?_ _ | refine blk_drew ?_ | refine blk_alloc ?_ _)); exact BK334.out⟩, ⟨by repeat (first | (with_reducible first | exact HB.out | apply below_alloc | apply pw_below_drewN | apply below_drew1 | refine below_set ?_ GE334.out) | exact HB.out)⟩⟩
      replace c7 := Bool.eq_false_iff.mpr c7
      subst c7
      have H1 : (if 0 ≤ a2 then (if a2 < (l1.length : Int) then (if 0 ≤ x10_2 then (if x10_2 < ((rd_L11 l1 a2).length : Int) then (if rdOf false (rd_L11 l1 a2) x10_2 = true then ((fettleref05_Leads.f k2 a0_0 a0_1 l0_2 l0_3 x10_2 x8_1).bind fun t337 => (fettleref06_Frontier.l1 k2 l1 a2 x7_1 x8_1 t337 (wrap64 (x10_2 + 1)) a0_0 a0_1 l0_2 l0_3)) else (fettleref06_Frontier.l1 k2 l1 a2 x7_1 x8_1 false (wrap64 (x10_2 + 1)) a0_0 a0_1 l0_2 l0_3)) else (none)) else (none)) else (none)) else (none)) = some r := by rw [if_neg (show ¬ (false = true) by decide)] at H; exact H
      clear H
      have H := H1
      clear H1
      by_cases c8 : 0 ≤ a2
      rotate_left
      · rw [if_neg c8] at H
        exact absurd H (by simp)
      rw [if_pos c8] at H
      have c8b0 : decide (0 ≤ a2) = true := decide_eq_true c8
      clear c8
      by_cases c9 : a2 < (l1.length : Int)
      rotate_left
      · rw [if_neg c9] at H
        exact absurd H (by simp)
      rw [if_pos c9] at H
      have c9b0 : decide (a2 < (l1.length : Int)) = true := decide_eq_true c9
      clear c9
      by_cases c10 : 0 ≤ x10_2
      rotate_left
      · rw [if_neg c10] at H
        exact absurd H (by simp)
      rw [if_pos c10] at H
      have c10b0 : decide (0 ≤ x10_2) = true := decide_eq_true c10
      clear c10
      by_cases c11 : x10_2 < ((rd_L11 l1 a2).length : Int)
      rotate_left
      · rw [if_neg c11] at H
        exact absurd H (by simp)
      rw [if_pos c11] at H
      have c11b0 : decide (x10_2 < ((rd_L11 l1 a2).length : Int)) = true := decide_eq_true c11
      clear c11
      obtain ⟨bq12, hbq12⟩ : ∃ b_ : Bool, b_ = (rdOf false (rd_L11 l1 a2) x10_2) := ⟨_, rfl⟩
      replace H : (if bq12 = true then ((fettleref05_Leads.f k2 a0_0 a0_1 l0_2 l0_3 x10_2 x8_1).bind fun t337 => (fettleref06_Frontier.l1 k2 l1 a2 x7_1 x8_1 t337 (wrap64 (x10_2 + 1)) a0_0 a0_1 l0_2 l0_3)) else (fettleref06_Frontier.l1 k2 l1 a2 x7_1 x8_1 false (wrap64 (x10_2 + 1)) a0_0 a0_1 l0_2 l0_3)) = some r := by rw [← hbq12] at H; exact H
      have Nbq12 := Aside0.mk hbq12
      clear hbq12
      by_cases c13 : bq12 = true
      · subst c13
        have H1 : ((fettleref05_Leads.f k2 a0_0 a0_1 l0_2 l0_3 x10_2 x8_1).bind fun t337 => (fettleref06_Frontier.l1 k2 l1 a2 x7_1 x8_1 t337 (wrap64 (x10_2 + 1)) a0_0 a0_1 l0_2 l0_3)) = some r := by rw [if_pos rfl] at H; exact H
        clear H
        have H := H1
        clear H1
        replace H := Option.bind_eq_some_iff.mp H
        obtain ⟨t337, A140, H⟩ := H
        replace H : (fettleref06_Frontier.l1 k2 l1 a2 x7_1 x8_1 t337 (wrap64 (x10_2 + 1)) a0_0 a0_1 l0_2 l0_3) = some r := H
        have A14 := Aside0.mk A140
        clear A140
        have H' := Aside0.mk H
        clear H
        have p335 : 0 ≤ (a2 : Int) := of_decide_eq_true (by with_reducible assumption)
        have q335 : a2 < (l1.length : Int) := of_decide_eq_true (by with_reducible assumption)
        obtain ⟨ad335, A335_0, c335_0, e335, hx335_0, hl335_0, hi335_0⟩ := at_L11 HR1.out a2 p335 q335
        cases e335
        replace hx335_0 := (HB.out.cell (World.block_lt_of_cell? w _ hx335_0)).trans hx335_0
        have HR335_0 := Aside0.mk hi335_0
        have HC335_0 := Aside0.mk hl335_0
        clear hi335_0 hl335_0
        replace p335 := eq_true p335
        replace q335 := eq_true q335
        have p336 : 0 ≤ (x10_2 : Int) := of_decide_eq_true (by with_reducible assumption)
        have q336 : x10_2 < ((rd_L11 l1 a2).length : Int) := of_decide_eq_true (by with_reducible assumption)
        obtain ⟨ad336, e336, hx336_0⟩ := Kd.at_bool HR335_0.out x10_2 p336 q336
        (try rw [← Nbq12.out] at hx336_0)
        cases e336
        replace hx336_0 := (HB.out.cell (World.block_lt_of_cell? w _ hx336_0)).trans hx336_0
        replace p336 := eq_true p336
        replace q336 := eq_true q336
        have hcz15_0 : wr.cell? ⟨gb334, 0, none⟩ = some (.int .i64 a0_0) := (blk_cell BK334.out 0).trans rfl
        have hcz15_1 : wr.cell? ⟨gb334, 1, none⟩ = some (.int .i64 a0_1) := (blk_cell BK334.out 1).trans rfl
        have hcz15_2 : wr.cell? ⟨gb334, 2, none⟩ = some (.slice A0_2 l0_2.length c0_2) := (blk_cell BK334.out 2).trans rfl
        have hcz15_3 : wr.cell? ⟨gb334, 3, none⟩ = some (.slice A0_3 l0_3.length c0_3) := (blk_cell BK334.out 3).trans rfl
        have hfz15_0 := blk_frozen BK334.out 0
        have hfz15_1 := blk_frozen BK334.out 1
        have hfz15_2 := blk_frozen BK334.out 2
        have hfz15_3 := blk_frozen BK334.out 3
        go_wp2_with (first | (go_at_call 33; (with_reducible refine (fettleref05_Leads.calls k2 a0_0 a0_1 _ _ l0_2 _ _ l0_3 x10_2 x8_1 t337 _ ?side1 ?side2 ?side3 ?side4 A14.out).mono ?_); (case side1 => repeat (first | exact (C_below HR0_2.out HB.out) | (with_reducible refine C_alloc ?_ _) | (with_reducible refine C_drewN ?_ _) | (with_reducible refine C_drew ?_))); (case side2 => exact HC0_2.out); (case side3 => repeat (first | exact (C_below HR0_3.out HB.out) | (with_reducible refine C_alloc ?_ _) | (with_reducible refine C_drewN ?_ _) | (with_reducible refine C_drew ?_))); (case side4 => exact HC0_3.out); rintro e w16 ⟨rfl, hb⟩; have n0_ := Aside0.mk (Kd.R_below (by (with_reducible repeat (first | apply R_alloc | apply R_drewN | apply R_drew)); exact HO_7.out) hb); have n1_ := Aside0.mk (blk_below (g := gb334) (o := .cells #[.int .i64 a0_0, .int .i64 a0_1, .slice A0_2 l0_2.length c0_2, .slice A0_3 l0_3.length c0_3] 25 (0, 0)) (by (with_reducible repeat (first | refine blk_drewN ?_ _ | refine blk_drew ?_ | refine blk_alloc ?_ _)); exact BK334.out) hb); have n2_ := Aside0.mk (below_step (by repeat with_reducible first | exact HB.out | apply below_alloc | apply pw_below_drewN | apply below_drew1 | refine below_set ?_ GE334.out) hb); clear HO_7; clear BK334; clear HB; have HO_7 := n0_; have BK334 := n1_; have HB := n2_; clear n0_ n1_ n2_; (try clear hb); (try clear hb2); (try clear hk); (try clear hi)))
        go_roundg k2
        case measure => have := HK1.out; have := HK2.out; omega
        case rel => exact ⟨(t337), (wrap64 (x10_2 + 1)), (by first | rfl | (simp; done) | (simp [*]; done)), (by first | rfl | (simp; done) | (simp [*]; done)), H', ⟨by have := HK1.out; have := HK2.out; omega⟩, ⟨by (with_reducible repeat (first | apply R_alloc | apply R_drewN | apply R_drew)); exact HO_7.out⟩, ⟨by (with_reducible repeat (first | refine blk_drewN ?_ _ | refine blk_drew ?_ | refine blk_alloc ?_ _)); exact BK334.out⟩, ⟨by repeat (first | (with_reducible first | exact HB.out | apply below_alloc | apply pw_below_drewN | apply below_drew1 | refine below_set ?_ GE334.out) | exact HB.out)⟩⟩
      replace c13 := Bool.eq_false_iff.mpr c13
      subst c13
      have H1 : (fettleref06_Frontier.l1 k2 l1 a2 x7_1 x8_1 false (wrap64 (x10_2 + 1)) a0_0 a0_1 l0_2 l0_3) = some r := by rw [if_neg (show ¬ (false = true) by decide)] at H; exact H
      clear H
      have H := H1
      clear H1
      have H' := Aside0.mk H
      clear H
      have p335 : 0 ≤ (a2 : Int) := of_decide_eq_true (by with_reducible assumption)
      have q335 : a2 < (l1.length : Int) := of_decide_eq_true (by with_reducible assumption)
      obtain ⟨ad335, A335_0, c335_0, e335, hx335_0, hl335_0, hi335_0⟩ := at_L11 HR1.out a2 p335 q335
      cases e335
      replace hx335_0 := (HB.out.cell (World.block_lt_of_cell? w _ hx335_0)).trans hx335_0
      have HR335_0 := Aside0.mk hi335_0
      have HC335_0 := Aside0.mk hl335_0
      clear hi335_0 hl335_0
      replace p335 := eq_true p335
      replace q335 := eq_true q335
      have p336 : 0 ≤ (x10_2 : Int) := of_decide_eq_true (by with_reducible assumption)
      have q336 : x10_2 < ((rd_L11 l1 a2).length : Int) := of_decide_eq_true (by with_reducible assumption)
      obtain ⟨ad336, e336, hx336_0⟩ := Kd.at_bool HR335_0.out x10_2 p336 q336
      (try rw [← Nbq12.out] at hx336_0)
      cases e336
      replace hx336_0 := (HB.out.cell (World.block_lt_of_cell? w _ hx336_0)).trans hx336_0
      replace p336 := eq_true p336
      replace q336 := eq_true q336
      go_wp2
      go_roundg k2
      case measure => have := HK1.out; have := HK2.out; omega
      case rel => exact ⟨(false), (wrap64 (x10_2 + 1)), (by first | rfl | (simp; done) | (simp [*]; done)), (by first | rfl | (simp; done) | (simp [*]; done)), H', ⟨by have := HK1.out; have := HK2.out; omega⟩, ⟨by (with_reducible repeat (first | apply R_alloc | apply R_drewN | apply R_drew)); exact HO_7.out⟩, ⟨by (with_reducible repeat (first | refine blk_drewN ?_ _ | refine blk_drew ?_ | refine blk_alloc ?_ _)); exact BK334.out⟩, ⟨by repeat (first | (with_reducible first | exact HB.out | apply below_alloc | apply pw_below_drewN | apply below_drew1 | refine below_set ?_ GE334.out) | exact HB.out)⟩⟩
    rw [if_neg c6] at H
    have c6b0 : decide (x10_2 < (l1.length : Int)) = false := decide_eq_false c6
    clear c6
    by_cases c17 : x9_2 = true
    · subst c17
      have H1 : (if a2 = x8_1 then (if x7_1.length < 17592186044416 then (fettleref06_Frontier.l0 k2 l1 a2 (x7_1 ++ [x8_1]) (wrap64 (x8_1 + 1)) a0_0 a0_1 l0_2 l0_3) else (none)) else (if 0 ≤ a2 then (if a2 < (l1.length : Int) then (if 0 ≤ x8_1 then (if x8_1 < ((rd_L11 l1 a2).length : Int) then (if (rdOf false (rd_L11 l1 a2) x8_1 = true) then (fettleref06_Frontier.l0 k2 l1 a2 x7_1 (wrap64 (x8_1 + 1)) a0_0 a0_1 l0_2 l0_3) else (if x7_1.length < 17592186044416 then (fettleref06_Frontier.l0 k2 l1 a2 (x7_1 ++ [x8_1]) (wrap64 (x8_1 + 1)) a0_0 a0_1 l0_2 l0_3) else (none))) else (none)) else (none)) else (none)) else (none))) = some r := by rw [if_pos rfl] at H; exact H
      clear H
      have H := H1
      clear H1
      by_cases c18 : a2 = x8_1
      · rw [if_pos c18] at H
        have c18b0 : (a2 == x8_1) = true := beq_iff_eq.mpr c18
        have c18b1 : (a2 != x8_1) = false := bne_eq_false_iff_eq.mpr c18
        clear c18
        by_cases c19 : x7_1.length < 17592186044416
        rotate_left
        · rw [if_neg c19] at H
          exact absurd H (by simp)
        rw [if_pos c19] at H
        have LMc19 := Aside0.mk c19
        clear c19
        obtain ⟨y338, hy338⟩ : ∃ y_ : List Int, y_ = (x7_1 ++ [x8_1]) := ⟨_, rfl⟩
        replace H : (fettleref06_Frontier.l0 k2 l1 a2 y338 (wrap64 (x8_1 + 1)) a0_0 a0_1 l0_2 l0_3) = some r := by first | (rw [hy338]; with_reducible exact H) | (have H2_ := (Option.bind_some _ _).symm.trans H; rw [hy338]; with_reducible exact H2_) | exact H
        have Ny338 := Aside0.mk hy338
        clear hy338
        have H' := Aside0.mk H
        clear H
        go_wp2_with (first | ((with_reducible refine gate_builtin (b := .append) (xs := #[.tmp 55, .tmp 57]) rfl ?_); at_builtin; refine Kd.R_append (Kd.int .i64) (w0 := w) w.heap.size rfl (.tmp 55) (.tmp 57) 22 3 (.int .i64 0) 8 rfl Try.underlying22 info3 rfl (by decide) (by omega) u7 x7_1 x8_1 [.int .i64 x8_1] (fun _ => True) (fun _ => False) rfl rfl ?aP (fun _ hk => hk.elim) ?aF ?aO ?aB ?aS ?aL ?_; (case aP => exact rfl); (case aB => exact (by repeat with_reducible first | exact HB.out | apply below_alloc | apply pw_below_drewN | apply below_drew1 | refine below_set ?_ GE334.out)); (case aF => exact (fun _ _ => trivial)); (case aO => exact (by (with_reducible repeat (first | apply R_alloc | apply R_drewN | apply R_drew)); exact HO_7.out)); (case aS => exact (below_size (by repeat with_reducible first | exact HB.out | apply below_alloc | apply pw_below_drewN | apply below_drew1 | refine below_set ?_ GE334.out))); (case aL => have := LMc19.out; omega); intro v339 w20 ho hb hg hat; rw [← Ny338.out] at ho; have n0_ := Aside0.mk (blk_grown (g := gb334) (o := .cells #[.int .i64 a0_0, .int .i64 a0_1, .slice A0_2 l0_2.length c0_2, .slice A0_3 l0_3.length c0_3] 25 (0, 0)) (by (with_reducible repeat (first | refine blk_drewN ?_ _ | refine blk_drew ?_ | refine blk_alloc ?_ _)); exact BK334.out) hg (Kd.R_ne HO_7.out BK334.out (by decide))); have n1_ := Aside0.mk (hb); have n2_ := Aside0.mk (ho); clear BK334; clear HB; clear HO_7; have BK334 := n0_; have HB := n1_; have HO340 := n2_; clear n0_ n1_ n2_; clear ho hb hg hat))
        go_roundg k2
        case measure => have := HK1.out; have := HK2.out; omega
        case rel => exact ⟨(y338), (wrap64 (x8_1 + 1)), (by first | rfl | (simp; done) | (simp [*]; done)), H', ⟨by have := HK1.out; have := HK2.out; omega⟩, ⟨by (with_reducible repeat (first | apply R_alloc | apply R_drewN | apply R_drew)); exact HO340.out⟩, ⟨by (with_reducible repeat (first | refine blk_drewN ?_ _ | refine blk_drew ?_ | refine blk_alloc ?_ _)); exact BK334.out⟩, ⟨by repeat (first | (with_reducible first | exact HB.out | apply below_alloc | apply pw_below_drewN | apply below_drew1 | refine below_set ?_ GE334.out) | exact HB.out)⟩⟩
      rw [if_neg c18] at H
      have c18b0 : (a2 == x8_1) = false := beq_eq_false_iff_ne.mpr c18
      have c18b1 : (a2 != x8_1) = true := bne_iff_ne.mpr c18
      by_cases c21 : 0 ≤ a2
      rotate_left
      · rw [if_neg c21] at H
        exact absurd H (by simp)
      rw [if_pos c21] at H
      have c21b0 : decide (0 ≤ a2) = true := decide_eq_true c21
      clear c21
      by_cases c22 : a2 < (l1.length : Int)
      rotate_left
      · rw [if_neg c22] at H
        exact absurd H (by simp)
      rw [if_pos c22] at H
      have c22b0 : decide (a2 < (l1.length : Int)) = true := decide_eq_true c22
      clear c22
      by_cases c23 : 0 ≤ x8_1
      rotate_left
      · rw [if_neg c23] at H
        exact absurd H (by simp)
      rw [if_pos c23] at H
      have c23b0 : decide (0 ≤ x8_1) = true := decide_eq_true c23
      clear c23
      by_cases c24 : x8_1 < ((rd_L11 l1 a2).length : Int)
      rotate_left
      · rw [if_neg c24] at H
        exact absurd H (by simp)
      rw [if_pos c24] at H
      have c24b0 : decide (x8_1 < ((rd_L11 l1 a2).length : Int)) = true := decide_eq_true c24
      clear c24
      obtain ⟨bq25, hbq25⟩ : ∃ b_ : Bool, b_ = (rdOf false (rd_L11 l1 a2) x8_1) := ⟨_, rfl⟩
      replace H : (if (bq25 = true) then (fettleref06_Frontier.l0 k2 l1 a2 x7_1 (wrap64 (x8_1 + 1)) a0_0 a0_1 l0_2 l0_3) else (if x7_1.length < 17592186044416 then (fettleref06_Frontier.l0 k2 l1 a2 (x7_1 ++ [x8_1]) (wrap64 (x8_1 + 1)) a0_0 a0_1 l0_2 l0_3) else (none))) = some r := by rw [← hbq25] at H; exact H
      have Nbq25 := Aside0.mk hbq25
      clear hbq25
      by_cases c26 : (bq25 = true)
      · subst c26
        have H1 : (fettleref06_Frontier.l0 k2 l1 a2 x7_1 (wrap64 (x8_1 + 1)) a0_0 a0_1 l0_2 l0_3) = some r := by rw [if_pos rfl] at H; exact H
        clear H
        have H := H1
        clear H1
        have H' := Aside0.mk H
        clear H
        have p341 : 0 ≤ (a2 : Int) := of_decide_eq_true (by with_reducible assumption)
        have q341 : a2 < (l1.length : Int) := of_decide_eq_true (by with_reducible assumption)
        obtain ⟨ad341, A341_0, c341_0, e341, hx341_0, hl341_0, hi341_0⟩ := at_L11 HR1.out a2 p341 q341
        cases e341
        replace hx341_0 := (HB.out.cell (World.block_lt_of_cell? w _ hx341_0)).trans hx341_0
        have HR341_0 := Aside0.mk hi341_0
        have HC341_0 := Aside0.mk hl341_0
        clear hi341_0 hl341_0
        replace p341 := eq_true p341
        replace q341 := eq_true q341
        have p342 : 0 ≤ (x8_1 : Int) := of_decide_eq_true (by with_reducible assumption)
        have q342 : x8_1 < ((rd_L11 l1 a2).length : Int) := of_decide_eq_true (by with_reducible assumption)
        obtain ⟨ad342, e342, hx342_0⟩ := Kd.at_bool HR341_0.out x8_1 p342 q342
        (try rw [← Nbq25.out] at hx342_0)
        cases e342
        replace hx342_0 := (HB.out.cell (World.block_lt_of_cell? w _ hx342_0)).trans hx342_0
        replace p342 := eq_true p342
        replace q342 := eq_true q342
        go_wp2
        go_roundg k2
        case measure => have := HK1.out; have := HK2.out; omega
        case rel => exact ⟨(x7_1), (wrap64 (x8_1 + 1)), (by first | rfl | (simp; done) | (simp [*]; done)), H', ⟨by have := HK1.out; have := HK2.out; omega⟩, ⟨by (with_reducible repeat (first | apply R_alloc | apply R_drewN | apply R_drew)); exact HO_7.out⟩, ⟨by (with_reducible repeat (first | refine blk_drewN ?_ _ | refine blk_drew ?_ | refine blk_alloc ?_ _)); exact BK334.out⟩, ⟨by repeat (first | (with_reducible first | exact HB.out | apply below_alloc | apply pw_below_drewN | apply below_drew1 | refine below_set ?_ GE334.out) | exact HB.out)⟩⟩
      replace c26 := Bool.eq_false_iff.mpr c26
      subst c26
      have H1 : (if x7_1.length < 17592186044416 then (fettleref06_Frontier.l0 k2 l1 a2 (x7_1 ++ [x8_1]) (wrap64 (x8_1 + 1)) a0_0 a0_1 l0_2 l0_3) else (none)) = some r := by rw [if_neg (show ¬ (false = true) by decide)] at H; exact H
      clear H
      have H := H1
      clear H1
      by_cases c27 : x7_1.length < 17592186044416
      rotate_left
      · rw [if_neg c27] at H
        exact absurd H (by simp)
      rw [if_pos c27] at H
      have LMc27 := Aside0.mk c27
      clear c27
      obtain ⟨y343, hy343⟩ : ∃ y_ : List Int, y_ = (x7_1 ++ [x8_1]) := ⟨_, rfl⟩
      replace H : (fettleref06_Frontier.l0 k2 l1 a2 y343 (wrap64 (x8_1 + 1)) a0_0 a0_1 l0_2 l0_3) = some r := by first | (rw [hy343]; with_reducible exact H) | (have H2_ := (Option.bind_some _ _).symm.trans H; rw [hy343]; with_reducible exact H2_) | exact H
      have Ny343 := Aside0.mk hy343
      clear hy343
      have H' := Aside0.mk H
      clear H
      have p341 : 0 ≤ (a2 : Int) := of_decide_eq_true (by with_reducible assumption)
      have q341 : a2 < (l1.length : Int) := of_decide_eq_true (by with_reducible assumption)
      obtain ⟨ad341, A341_0, c341_0, e341, hx341_0, hl341_0, hi341_0⟩ := at_L11 HR1.out a2 p341 q341
      cases e341
      replace hx341_0 := (HB.out.cell (World.block_lt_of_cell? w _ hx341_0)).trans hx341_0
      have HR341_0 := Aside0.mk hi341_0
      have HC341_0 := Aside0.mk hl341_0
      clear hi341_0 hl341_0
      replace p341 := eq_true p341
      replace q341 := eq_true q341
      have p342 : 0 ≤ (x8_1 : Int) := of_decide_eq_true (by with_reducible assumption)
      have q342 : x8_1 < ((rd_L11 l1 a2).length : Int) := of_decide_eq_true (by with_reducible assumption)
      obtain ⟨ad342, e342, hx342_0⟩ := Kd.at_bool HR341_0.out x8_1 p342 q342
      (try rw [← Nbq25.out] at hx342_0)
      cases e342
      replace hx342_0 := (HB.out.cell (World.block_lt_of_cell? w _ hx342_0)).trans hx342_0
      replace p342 := eq_true p342
      replace q342 := eq_true q342
      go_wp2_with (first | ((with_reducible refine gate_builtin (b := .append) (xs := #[.tmp 55, .tmp 57]) rfl ?_); at_builtin; refine Kd.R_append (Kd.int .i64) (w0 := w) w.heap.size rfl (.tmp 55) (.tmp 57) 22 3 (.int .i64 0) 8 rfl Try.underlying22 info3 rfl (by decide) (by omega) u7 x7_1 x8_1 [.int .i64 x8_1] (fun _ => True) (fun _ => False) rfl rfl ?aP (fun _ hk => hk.elim) ?aF ?aO ?aB ?aS ?aL ?_; (case aP => exact rfl); (case aB => exact (by repeat with_reducible first | exact HB.out | apply below_alloc | apply pw_below_drewN | apply below_drew1 | refine below_set ?_ GE334.out)); (case aF => exact (fun _ _ => trivial)); (case aO => exact (by (with_reducible repeat (first | apply R_alloc | apply R_drewN | apply R_drew)); exact HO_7.out)); (case aS => exact (below_size (by repeat with_reducible first | exact HB.out | apply below_alloc | apply pw_below_drewN | apply below_drew1 | refine below_set ?_ GE334.out))); (case aL => have := LMc27.out; omega); intro v344 w28 ho hb hg hat; rw [← Ny343.out] at ho; have n0_ := Aside0.mk (blk_grown (g := gb334) (o := .cells #[.int .i64 a0_0, .int .i64 a0_1, .slice A0_2 l0_2.length c0_2, .slice A0_3 l0_3.length c0_3] 25 (0, 0)) (by (with_reducible repeat (first | refine blk_drewN ?_ _ | refine blk_drew ?_ | refine blk_alloc ?_ _)); exact BK334.out) hg (Kd.R_ne HO_7.out BK334.out (by decide))); have n1_ := Aside0.mk (hb); have n2_ := Aside0.mk (ho); clear BK334; clear HB; clear HO_7; have BK334 := n0_; have HB := n1_; have HO345 := n2_; clear n0_ n1_ n2_; clear ho hb hg hat))
      go_roundg k2
      case measure => have := HK1.out; have := HK2.out; omega
      case rel => exact ⟨(y343), (wrap64 (x8_1 + 1)), (by first | rfl | (simp; done) | (simp [*]; done)), H', ⟨by have := HK1.out; have := HK2.out; omega⟩, ⟨by (with_reducible repeat (first | apply R_alloc | apply R_drewN | apply R_drew)); exact HO345.out⟩, ⟨by (with_reducible repeat (first | refine blk_drewN ?_ _ | refine blk_drew ?_ | refine blk_alloc ?_ _)); exact BK334.out⟩, ⟨by repeat (first | (with_reducible first | exact HB.out | apply below_alloc | apply pw_below_drewN | apply below_drew1 | refine below_set ?_ GE334.out) | exact HB.out)⟩⟩
    replace c17 := Bool.eq_false_iff.mpr c17
    subst c17
    have H1 : (fettleref06_Frontier.l0 k2 l1 a2 x7_1 (wrap64 (x8_1 + 1)) a0_0 a0_1 l0_2 l0_3) = some r := by rw [if_neg (show ¬ (false = true) by decide)] at H; exact H
    clear H
    have H := H1
    clear H1
    have H' := Aside0.mk H
    clear H
    go_wp2
    go_roundg k2
    case measure => have := HK1.out; have := HK2.out; omega
    case rel => exact ⟨(x7_1), (wrap64 (x8_1 + 1)), (by first | rfl | (simp; done) | (simp [*]; done)), H', ⟨by have := HK1.out; have := HK2.out; omega⟩, ⟨by (with_reducible repeat (first | apply R_alloc | apply R_drewN | apply R_drew)); exact HO_7.out⟩, ⟨by (with_reducible repeat (first | refine blk_drewN ?_ _ | refine blk_drew ?_ | refine blk_alloc ?_ _)); exact BK334.out⟩, ⟨by repeat (first | (with_reducible first | exact HB.out | apply below_alloc | apply pw_below_drewN | apply below_drew1 | refine below_set ?_ GE334.out) | exact HB.out)⟩⟩
  rw [if_neg c5] at H
  have c5b0 : decide (x8_1 < (l1.length : Int)) = false := decide_eq_false c5
  clear c5
  obtain rfl := Option.some.inj H
  go_wp2
  go_ret
  exact ⟨_, by first | rfl | (simp [errW_none, errW_some] <;> rfl) | (simp [*, errW_none, errW_some] <;> rfl), by (with_reducible repeat (first | apply R_alloc | apply R_drewN | apply R_drew)); exact HO_7.out, by repeat (first | (with_reducible first | exact HB.out | apply below_alloc | apply pw_below_drewN | apply below_drew1 | refine below_set ?_ GE334.out) | exact HB.out)⟩

end Go.Proofs.Ytpionncanaamgaa.PDomFrontiers
