-- Laid by a program of this session (wip/pp/patch.py over the kit's print).
import Derived.Test.YtpionncanaamgaaPDomStaysx0
import Derived.Test.YtpionncanaamgaaPDomStaysx4
import Derived.Test.YtpionncanaamgaaPDomStaysx8
namespace Go.Proofs.Ytpionncanaamgaa.PDomStays
open Go.RowKit Go.Proofs.YtpionncanaamgaaW.PrintWords Go.Proofs.YtpionncanaamgaaW.PrintLast Go.Proofs.YtpionncanaamgaaW.PrintMore Go.Proofs.YtpionncanaamgaaW.PrintWords.Kd
attribute [local go_sem] max2_int min2_int max_two min_two max_three min_three max_four min_four   -- for this text's walks alone
set_option linter.unusedVariables false
set_option linter.unusedSimpArgs false

/-! ### fettlelaw06_small: function 12 -/
def fettlelaw06_small.f (k : Nat) (a0_0 : Int) (a0_1 : Int) (l0_2 : List Int) (l0_3 : List (S52)) : Option (Bool) := (fettleref02_Small.f k (([(⟨a0_0, a0_1, l0_2, l0_3⟩ : S25)] : List (S25)))).bind fun t291 => (some t291)
theorem fettlelaw06_small.mono : ∀ a0 a1 a2 a3 k, LeO (fettlelaw06_small.f k a0 a1 a2 a3) (fettlelaw06_small.f (k + 1) a0 a1 a2 a3) := by
  intro a0 a1 a2 a3 k
  unfold fettlelaw06_small.f
  repeat' first
      | (with_reducible exact fettleref02_Small.mono _ _)
      | (with_reducible exact LeO.refl _)
      | (with_reducible exact LeO.none _)
      | (with_reducible refine LeO.ite ?_ ?_)
      | (with_reducible refine LeO.bind ?_ (fun _ => ?_))
      | exact fettleref02_Small.mono _ _
      | exact LeO.none _
      | refine LeO.ite ?_ ?_
      | refine LeO.bind ?_ (fun _ => ?_)
set_option maxHeartbeats 8000000 in
set_option maxRecDepth 100000 in
theorem fettlelaw06_small.calls (k : Nat) (a0_0 : Int) (a0_1 : Int) (P0_2_ : Nat → Prop) (A0_2 : Option Addr) (c0_2 : Nat) (l0_2 : List Int) (P0_3_ : Nat → Prop) (A0_3 : Option Addr) (c0_3 : Nat) (l0_3 : List (S52)) (r : Bool) (w : World) (hs0_2 : Kd.V (Kd.int .i64) 3 w w.heap.size (fun k_ => P0_2_ k_) (.slice A0_2 l0_2.length c0_2) l0_2) (hs0_3 : Kd.V k52 52 w w.heap.size (fun k_ => P0_3_ k_) (.slice A0_3 l0_3.length c0_3) l0_3) (h : fettlelaw06_small.f k a0_0 a0_1 l0_2 l0_3 = some r) :
    Calls Try.prog 12 #[.agg #[.int .i64 a0_0, .int .i64 a0_1, .slice A0_2 l0_2.length c0_2, .slice A0_3 l0_3.length c0_3]] w fun e w' => e = .returned (.bool r) ∧ Below w.heap.size w w' := by
  have hu25 := Try.underlying25
  have hu56 := Try.underlying56
  have HO0_2 := Aside0.mk (show Kd.V (Kd.int .i64) 3 w w.heap.size (fun k_ => ((P0_2_ k_ ∨ P0_3_ k_) ∨ w.heap.size ≤ k_)) (.slice A0_2 l0_2.length c0_2) l0_2 from Kd.V_mono hs0_2 (fun k_ hk => .inl (.inl hk)))
  have HO0_3 := Aside0.mk (show Kd.V k52 52 w w.heap.size (fun k_ => ((P0_2_ k_ ∨ P0_3_ k_) ∨ w.heap.size ≤ k_)) (.slice A0_3 l0_3.length c0_3) l0_3 from Kd.V_mono hs0_3 (fun k_ hk => .inl (.inr hk)))
  have HB := Aside0.mk (Below.refl w.heap.size w)
  have H : ((fettleref02_Small.f k (([(⟨a0_0, a0_1, l0_2, l0_3⟩ : S25)] : List (S25)))).bind fun t291 => (some t291)) = some r := h
  clear h
  obtain ⟨y288, hy288⟩ : ∃ y_ : List (S25), y_ = (([(⟨a0_0, a0_1, l0_2, l0_3⟩ : S25)] : List (S25))) := ⟨_, rfl⟩
  replace H : ((fettleref02_Small.f k y288).bind fun t291 => (some t291)) = some r := by first | (rw [hy288]; with_reducible exact H) | (have H2_ := (Option.bind_some _ _).symm.trans H; rw [hy288]; with_reducible exact H2_) | exact H
  have Ny288 := Aside0.mk hy288
  clear hy288
  replace H := Option.bind_eq_some_iff.mp H
  obtain ⟨t291, A20, H⟩ := H
  replace H : (some t291) = some r := H
  have A2 := Aside0.mk A20
  clear A20
  obtain rfl := Option.some.inj H
  go_enter Try.func12, Try.ntmps12
  go_wp2_with (first | ((with_reducible refine gate_dst (N := 1) rfl ?_); refine box_event ?hg (N := 1) ?hd (cs := #[.int .i64 a0_0, .int .i64 a0_1, .slice A0_2 l0_2.length c0_2, .slice A0_3 l0_3.length c0_3]) (t := 25) ?hr ?_; (case hd => rfl); (case hg => rfl); (case hr => first | (go_simp; done) | (go_simp; rfl)); intro gb287 hg w3 hbox hb; have n0_ := Aside0.mk (Kd.V_below (Kd.V_elderB (by (with_reducible repeat (first | apply Kd.V_alloc | apply Kd.V_drewN | apply Kd.V_drew)); exact HO0_2.out) gb287 (Nat.le_of_eq hg.symm)) hb); have n1_ := Aside0.mk (Kd.V_below (Kd.V_elderB (by (with_reducible repeat (first | apply Kd.V_alloc | apply Kd.V_drewN | apply Kd.V_drew)); exact HO0_3.out) gb287 (Nat.le_of_eq hg.symm)) hb); have n2_ := Aside0.mk (below_step (by repeat with_reducible first | exact HB.out | apply below_alloc | apply pw_below_drewN | apply below_drew1) hb); have n3_ := Aside0.mk (hbox); have n4_ := Aside0.mk ((by rw [hg]; exact (below_size (by repeat with_reducible first | exact HB.out | apply below_alloc | apply pw_below_drewN | apply below_drew1)) : w.heap.size ≤ gb287)); have n5_ := Aside0.mk ((by rw [hg]; exact (below_size (by repeat with_reducible first | exact HB.out | apply below_alloc | apply pw_below_drewN | apply below_drew1)) : w.heap.size ≤ gb287)); clear HO0_2; clear HO0_3; clear HB; have HO0_2 := n0_; have HO0_3 := n1_; have HB := n2_; have BK287 := n3_; have GW287 := n4_; have GE287 := n5_; clear n0_ n1_ n2_ n3_ n4_ n5_; clear hb hbox hg; have hcz4_0 : w3.cell? ⟨gb287, 0, none⟩ = some (.int .i64 a0_0) := (blk_cell BK287.out 0).trans rfl; have hcz4_1 : w3.cell? ⟨gb287, 1, none⟩ = some (.int .i64 a0_1) := (blk_cell BK287.out 1).trans rfl; have hcz4_2 : w3.cell? ⟨gb287, 2, none⟩ = some (.slice A0_2 l0_2.length c0_2) := (blk_cell BK287.out 2).trans rfl; have hcz4_3 : w3.cell? ⟨gb287, 3, none⟩ = some (.slice A0_3 l0_3.length c0_3) := (blk_cell BK287.out 3).trans rfl; have hfz4_0 := blk_frozen BK287.out 0; have hfz4_1 := blk_frozen BK287.out 1; have hfz4_2 := blk_frozen BK287.out 2; have hfz4_3 := blk_frozen BK287.out 3) | ((with_reducible refine gate_dst (N := 4) rfl ?_); refine Kd.N_lit k25 _ 25 ?hg (N' := 4) ?hd (xs := ([(⟨a0_0, a0_1, l0_2, l0_3⟩ : S25)] : List (S25))) (inner := [.int .i64 a0_0, .int .i64 a0_1, .slice A0_2 l0_2.length c0_2, .slice A0_3 l0_3.length c0_3]) (ok := (fun k_ => ((P0_2_ k_ ∨ P0_3_ k_) ∨ w.heap.size ≤ k_) ∧ k_ ≠ gb287)) (okp := (fun k_ => ((P0_2_ k_ ∨ P0_3_ k_) ∨ w.heap.size ≤ k_) ∧ k_ ≠ gb287)) ?hr ?hp (fun _ hk => hk) ((show ∀ k_, w3.heap.size ≤ k_ → (fun k_ => ((P0_2_ k_ ∨ P0_3_ k_) ∨ w.heap.size ≤ k_) ∧ k_ ≠ gb287) k_ from fun k_ hk => ⟨(.inr (Nat.le_trans (below_size (by repeat with_reducible first | exact HB.out | apply below_alloc | apply pw_below_drewN | apply below_drew1 | refine below_set ?_ GE287.out)) hk)), Kd.freshB (g := gb287) (o := .cells #[.int .i64 a0_0, .int .i64 a0_1, .slice A0_2 l0_2.length c0_2, .slice A0_3 l0_3.length c0_3] 25 (0, 0)) (by (with_reducible repeat (first | refine blk_drewN ?_ _ | refine blk_drew ?_ | refine blk_alloc ?_ _)); exact BK287.out) k_ hk⟩) _ (Nat.le_refl _)) (Below.refl _ _) (Nat.le_refl _) (by simp) ?_; (case hd => rfl); (case hg => rfl); (case hr => first | (go_simp; done) | (go_simp; rfl)); (case hp => exact (Reps.c4 (show Kd.FK k25 _ _ (⟨a0_0, a0_1, l0_2, l0_3⟩ : S25) [.int .i64 a0_0, .int .i64 a0_1, .slice A0_2 l0_2.length c0_2, .slice A0_3 l0_3.length c0_3] from (k25_mkF _ _ (⟨a0_0, a0_1, l0_2, l0_3⟩ : S25) (Kd.V_reads' (Kd.V_mono (ok' := (fun k_ => ((P0_2_ k_ ∨ P0_3_ k_) ∨ w.heap.size ≤ k_) ∧ k_ ≠ gb287)) (HO0_2.out) (fun k_ hk => ⟨hk.1, hk.2⟩))).2.1 (Kd.V_F (Kd.V_mono (ok' := (fun k_ => ((P0_2_ k_ ∨ P0_3_ k_) ∨ w.heap.size ≤ k_) ∧ k_ ≠ gb287)) (HO0_2.out) (fun k_ hk => ⟨hk.1, hk.2⟩))) (Kd.V_reads' (Kd.V_mono (ok' := (fun k_ => ((P0_2_ k_ ∨ P0_3_ k_) ∨ w.heap.size ≤ k_) ∧ k_ ≠ gb287)) (HO0_3.out) (fun k_ hk => ⟨hk.1, hk.2⟩))).2.1 (Kd.V_F (Kd.V_mono (ok' := (fun k_ => ((P0_2_ k_ ∨ P0_3_ k_) ∨ w.heap.size ≤ k_) ∧ k_ ≠ gb287)) (HO0_3.out) (fun k_ hk => ⟨hk.1, hk.2⟩))))) (Reps.none _ _))); intro v289 w5 ho6 hb hg_ hnew_; clear hg_ hnew_; rw [← Ny288.out] at ho6; have n0_ := Aside0.mk (Kd.V_elder' (by (with_reducible repeat (first | apply Kd.V_alloc | apply Kd.V_drewN | apply Kd.V_drew)); exact HO0_2.out) (Kd.N_base ho6) hb); have n1_ := Aside0.mk (Kd.V_elder' (by (with_reducible repeat (first | apply Kd.V_alloc | apply Kd.V_drewN | apply Kd.V_drew)); exact HO0_3.out) (Kd.N_base ho6) hb); have n2_ := Aside0.mk (Kd.N_lower ho6 (below_size (by repeat with_reducible first | exact HB.out | apply below_alloc | apply pw_below_drewN | apply below_drew1 | refine below_set ?_ GE287.out))); have n3_ := Aside0.mk (blk_below (g := gb287) (o := .cells #[.int .i64 a0_0, .int .i64 a0_1, .slice A0_2 l0_2.length c0_2, .slice A0_3 l0_3.length c0_3] 25 (0, 0)) (by (with_reducible repeat (first | refine blk_drewN ?_ _ | refine blk_drew ?_ | refine blk_alloc ?_ _)); exact BK287.out) hb); have n4_ := Aside0.mk (below_step (by repeat with_reducible first | exact HB.out | apply below_alloc | apply pw_below_drewN | apply below_drew1 | refine below_set ?_ GE287.out) hb); clear HO0_2; clear HO0_3; clear BK287; clear HB; have HO0_2 := n0_; have HO0_3 := n1_; have HO290 := n2_; have BK287 := n3_; have HB := n4_; clear n0_ n1_ n2_ n3_ n4_; clear hb ho6; obtain ⟨Ao7, co7, eo7⟩ := Kd.N_slice HO290.out; subst eo7) | ((with_reducible refine gate_callee (f := 30) rfl ?_); refine goesL_ (some 6) rfl rfl Try.func30 (by kernel_rfl) rfl #[.agg #[.slice Ao7 y288.length co7]] rfl (by (try simp only [List.map_toArray, List.map_cons, List.map_nil]); first | done | rfl) ?_; (with_reducible refine (fettleref02_Small.calls k _ _ y288 t291 _ ?side1 ?side2 A2.out).mono ?_); (case side1 => repeat (first | exact (Kd.N_reads' HO290.out).2.2 | (with_reducible refine C_alloc ?_ _) | (with_reducible refine C_drewN ?_ _) | (with_reducible refine C_drew ?_))); (case side2 => exact (Kd.N_reads' HO290.out).2.1); rintro e w8 ⟨rfl, hb⟩; refine ⟨_, rfl, ?_⟩; have n0_ := Aside0.mk (Kd.V_below (by (with_reducible repeat (first | apply Kd.V_alloc | apply Kd.V_drewN | apply Kd.V_drew)); exact HO0_2.out) hb); have n1_ := Aside0.mk (Kd.V_below (by (with_reducible repeat (first | apply Kd.V_alloc | apply Kd.V_drewN | apply Kd.V_drew)); exact HO0_3.out) hb); have n2_ := Aside0.mk (Kd.N_below (by (with_reducible repeat (first | apply Kd.N_alloc | apply Kd.N_drewN | apply Kd.N_drew)); exact HO290.out) hb); have n3_ := Aside0.mk (blk_below (g := gb287) (o := .cells #[.int .i64 a0_0, .int .i64 a0_1, .slice A0_2 l0_2.length c0_2, .slice A0_3 l0_3.length c0_3] 25 (0, 0)) (by (with_reducible repeat (first | refine blk_drewN ?_ _ | refine blk_drew ?_ | refine blk_alloc ?_ _)); exact BK287.out) hb); have n4_ := Aside0.mk (below_step (by repeat with_reducible first | exact HB.out | apply below_alloc | apply pw_below_drewN | apply below_drew1 | refine below_set ?_ GE287.out) hb); clear HO0_2; clear HO0_3; clear HO290; clear BK287; clear HB; have HO0_2 := n0_; have HO0_3 := n1_; have HO290 := n2_; have BK287 := n3_; have HB := n4_; clear n0_ n1_ n2_ n3_ n4_; (try clear hb); (try clear hb2); (try clear hk); (try clear hi)))
  go_ret
  exact ⟨by first | rfl | (simp [errW_none, errW_some] <;> rfl) | (simp [*, errW_none, errW_some] <;> rfl), by repeat (first | (with_reducible first | exact HB.out | apply below_alloc | apply pw_below_drewN | apply below_drew1 | refine below_set ?_ GE287.out) | exact HB.out)⟩

/-! ### dom_Under: function 21 -/
def dom_Under.l0 : Nat → List (List Int) → List Int → Int → Int → Option ((List (List Int)))
  | 0, _, _, _, _ => none
  | k + 1, x4, x12, x13, x14 => if x14 < x13 then (if 0 ≤ x14 then (if x14 < (x12.length : Int) then (if (rd x12 x14) ≥ 0 then (if 0 ≤ (rd x12 x14) then (if (rd x12 x14) < (x4.length : Int) then (if (rd_L1 x4 (rd x12 x14)).length < 17592186044416 then (dom_Under.l0 k (x4.set ((rd x12 x14) : Int).toNat ((rd_L1 x4 (rd x12 x14)) ++ [x14])) x12 x13 (wrap64 (x14 + 1))) else (none)) else (none)) else (none)) else (dom_Under.l0 k x4 x12 x13 (wrap64 (x14 + 1)))) else (none)) else (none)) else (some x4)
def dom_Under.f (k : Nat) (a0_0 : Int) (a0_1 : Int) (l0_2 : List Int) (l0_3 : List (S52)) : Option ((List (List Int))) := (dom_Nearest.f k a0_0 a0_1 l0_2 l0_3).bind fun t293 => (if 0 ≤ (t293.length : Int) then (if ((t293.length : Int) : Int).toNat ≤ 11728124029610 then (dom_Under.l0 k (List.replicate ((t293.length : Int) : Int).toNat []) t293 (t293.length : Int) 0) else (none)) else (none))
theorem dom_Under.mono_l : ∀ k, (∀ y0 y1 y2 y3, LeO (dom_Under.l0 k y0 y1 y2 y3) (dom_Under.l0 (k + 1) y0 y1 y2 y3))
  | 0 => fun _ _ _ _ r h => by simp [dom_Under.l0] at h
  | k + 1 => by
    have ih0 := dom_Under.mono_l k
    · intro y0 y1 y2 y3
      unfold dom_Under.l0
      repeat' first
      | (with_reducible exact ih0 _ _ _ _)
      | (with_reducible exact dom_Nearest.mono _ _ _ _ _)
      | (with_reducible exact LeO.refl _)
      | (with_reducible exact LeO.none _)
      | (with_reducible refine LeO.ite ?_ ?_)
      | (with_reducible refine LeO.bind ?_ (fun _ => ?_))
      | exact ih0 _ _ _ _
      | exact dom_Nearest.mono _ _ _ _ _
      | exact LeO.none _
      | refine LeO.ite ?_ ?_
      | refine LeO.bind ?_ (fun _ => ?_)
theorem dom_Under.mono : ∀ a0 a1 a2 a3 k, LeO (dom_Under.f k a0 a1 a2 a3) (dom_Under.f (k + 1) a0 a1 a2 a3) := by
  intro a0 a1 a2 a3 k
  have ih0 := dom_Under.mono_l k
  unfold dom_Under.f
  repeat' first
      | (with_reducible exact ih0 _ _ _ _)
      | (with_reducible exact dom_Nearest.mono _ _ _ _ _)
      | (with_reducible exact LeO.refl _)
      | (with_reducible exact LeO.none _)
      | (with_reducible refine LeO.ite ?_ ?_)
      | (with_reducible refine LeO.bind ?_ (fun _ => ?_))
      | exact ih0 _ _ _ _
      | exact dom_Nearest.mono _ _ _ _ _
      | exact LeO.none _
      | refine LeO.ite ?_ ?_
      | refine LeO.bind ?_ (fun _ => ?_)
set_option maxHeartbeats 8000000 in
set_option maxRecDepth 100000 in
theorem dom_Under.calls (k : Nat) (a0_0 : Int) (a0_1 : Int) (A0_2 : Option Addr) (c0_2 : Nat) (l0_2 : List Int) (A0_3 : Option Addr) (c0_3 : Nat) (l0_3 : List (S52)) (r : List (List Int)) (w : World) (hr0_2 : Kd.C (Kd.int .i64) w A0_2 l0_2.length l0_2) (hc0_2 : l0_2.length ≤ c0_2) (hr0_3 : Kd.C k52 w A0_3 l0_3.length l0_3) (hc0_3 : l0_3.length ≤ c0_3) (h : dom_Under.f k a0_0 a0_1 l0_2 l0_3 = some r) :
    Calls Try.prog 21 #[.agg #[.int .i64 a0_0, .int .i64 a0_1, .slice A0_2 l0_2.length c0_2, .slice A0_3 l0_3.length c0_3]] w fun e w' => ∃ v0_ : Value, e = .returned (v0_) ∧ Kd.S (Kd.slice 3 (Kd.int .i64)) 22 w' w.heap.size (fun _ => True) v0_ r ∧ Below w.heap.size w w' := by
  have hu25 := Try.underlying25
  have HR0_2 := Aside0.mk hr0_2
  have HC0_2 := Aside0.mk hc0_2
  clear hr0_2 hc0_2
  have HR0_3 := Aside0.mk hr0_3
  have HC0_3 := Aside0.mk hc0_3
  clear hr0_3 hc0_3
  have HB := Aside0.mk (Below.refl w.heap.size w)
  have H : ((dom_Nearest.f k a0_0 a0_1 l0_2 l0_3).bind fun t293 => (if 0 ≤ (t293.length : Int) then (if ((t293.length : Int) : Int).toNat ≤ 11728124029610 then (dom_Under.l0 k (List.replicate ((t293.length : Int) : Int).toNat []) t293 (t293.length : Int) 0) else (none)) else (none))) = some r := h
  clear h
  replace H := Option.bind_eq_some_iff.mp H
  obtain ⟨t293, A20, H⟩ := H
  replace H : (if 0 ≤ (t293.length : Int) then (if ((t293.length : Int) : Int).toNat ≤ 11728124029610 then (dom_Under.l0 k (List.replicate ((t293.length : Int) : Int).toNat []) t293 (t293.length : Int) 0) else (none)) else (none)) = some r := H
  have A2 := Aside0.mk A20
  clear A20
  by_cases c3 : 0 ≤ (t293.length : Int)
  rotate_left
  · rw [if_neg c3] at H
    exact absurd H (by simp)


  rw [if_pos c3] at H
  have c3b0 := eq_true c3
  have c3b1 : decide (0 ≤ (t293.length : Int)) = true := decide_eq_true c3
  clear c3
  by_cases c4 : ((t293.length : Int) : Int).toNat ≤ 11728124029610
  rotate_left
  · rw [if_neg c4] at H
    exact absurd H (by simp)
  rw [if_pos c4] at H
  have c4b0 := eq_true c4
  have c4b1 : decide (((t293.length : Int) : Int).toNat ≤ 11728124029610) = true := decide_eq_true c4
  clear c4
  obtain ⟨y296, hy296⟩ : ∃ y_ : List (List Int), y_ = (List.replicate ((t293.length : Int) : Int).toNat []) := ⟨_, rfl⟩
  replace H : (dom_Under.l0 k y296 t293 (t293.length : Int) 0) = some r := by first | (rw [hy296]; with_reducible exact H) | (have H2_ := (Option.bind_some _ _).symm.trans H; rw [hy296]; with_reducible exact H2_) | exact H
  have Ny296 := Aside0.mk hy296
  clear hy296
  have H' := Aside0.mk H
  clear H
  go_enter Try.func21, Try.ntmps21
  go_wp2_with (first | ((with_reducible refine gate_dst (N := 1) rfl ?_); refine box_event ?hg (N := 1) ?hd (cs := #[.int .i64 a0_0, .int .i64 a0_1, .slice A0_2 l0_2.length c0_2, .slice A0_3 l0_3.length c0_3]) (t := 25) ?hr ?_; (case hd => rfl); (case hg => rfl); (case hr => first | (go_simp; done) | (go_simp; rfl)); intro gb292 hg w5 hbox hb; have n0_ := Aside0.mk (below_step (by repeat with_reducible first | exact HB.out | apply below_alloc | apply pw_below_drewN | apply below_drew1) hb); have n1_ := Aside0.mk (hbox); have n2_ := Aside0.mk ((by rw [hg]; exact (below_size (by repeat with_reducible first | exact HB.out | apply below_alloc | apply pw_below_drewN | apply below_drew1)) : w.heap.size ≤ gb292)); have n3_ := Aside0.mk ((by rw [hg]; exact (below_size (by repeat with_reducible first | exact HB.out | apply below_alloc | apply pw_below_drewN | apply below_drew1)) : w.heap.size ≤ gb292)); clear HB; have HB := n0_; have BK292 := n1_; have GW292 := n2_; have GE292 := n3_; clear n0_ n1_ n2_ n3_; clear hb hbox hg; have hcz6_0 : w5.cell? ⟨gb292, 0, none⟩ = some (.int .i64 a0_0) := (blk_cell BK292.out 0).trans rfl; have hcz6_1 : w5.cell? ⟨gb292, 1, none⟩ = some (.int .i64 a0_1) := (blk_cell BK292.out 1).trans rfl; have hcz6_2 : w5.cell? ⟨gb292, 2, none⟩ = some (.slice A0_2 l0_2.length c0_2) := (blk_cell BK292.out 2).trans rfl; have hcz6_3 : w5.cell? ⟨gb292, 3, none⟩ = some (.slice A0_3 l0_3.length c0_3) := (blk_cell BK292.out 3).trans rfl; have hfz6_0 := blk_frozen BK292.out 0; have hfz6_1 := blk_frozen BK292.out 1; have hfz6_2 := blk_frozen BK292.out 2; have hfz6_3 := blk_frozen BK292.out 3) | ((with_reducible refine gate_callee (f := 20) rfl ?_); refine goesL_ (some 8) rfl rfl Try.func20 (by kernel_rfl) rfl #[.agg #[.int .i64 a0_0, .int .i64 a0_1, .slice A0_2 l0_2.length c0_2, .slice A0_3 l0_3.length c0_3]] rfl (by (try simp only [List.map_toArray, List.map_cons, List.map_nil]); first | done | rfl) ?_; (with_reducible refine (dom_Nearest.calls k a0_0 a0_1 _ _ l0_2 _ _ l0_3 t293 _ ?side1 ?side2 ?side3 ?side4 A2.out).mono ?_); (case side1 => repeat (first | exact (C_below HR0_2.out HB.out) | (with_reducible refine C_alloc ?_ _) | (with_reducible refine C_drewN ?_ _) | (with_reducible refine C_drew ?_))); (case side2 => exact HC0_2.out); (case side3 => repeat (first | exact (C_below HR0_3.out HB.out) | (with_reducible refine C_alloc ?_ _) | (with_reducible refine C_drewN ?_ _) | (with_reducible refine C_drew ?_))); (case side4 => exact HC0_3.out); rintro e w7 ⟨v294, rfl, ho0, hb⟩; refine ⟨_, rfl, ?_⟩; have n0_ := Aside0.mk (Kd.R_lower ho0 (below_size (by repeat with_reducible first | exact HB.out | apply below_alloc | apply pw_below_drewN | apply below_drew1 | refine below_set ?_ GE292.out))); have n1_ := Aside0.mk (blk_below (g := gb292) (o := .cells #[.int .i64 a0_0, .int .i64 a0_1, .slice A0_2 l0_2.length c0_2, .slice A0_3 l0_3.length c0_3] 25 (0, 0)) (by (with_reducible repeat (first | refine blk_drewN ?_ _ | refine blk_drew ?_ | refine blk_alloc ?_ _)); exact BK292.out) hb); have n2_ := Aside0.mk (below_step (by repeat with_reducible first | exact HB.out | apply below_alloc | apply pw_below_drewN | apply below_drew1 | refine below_set ?_ GE292.out) hb); clear BK292; clear HB; have HO295 := n0_; have BK292 := n1_; have HB := n2_; clear n0_ n1_ n2_; (try clear hb); (try clear hb2); (try clear hk); (try clear hi); (try clear ho0); obtain ⟨Ao8, co8, eo8⟩ := Kd.R_slice HO295.out; subst eo8) | ((with_reducible refine gate_dst (N := 11) rfl ?_); refine Kd.S_make (Kd.slice 3 (Kd.int .i64)) _ 22 rfl (N := 11) rfl 28 _ _ rfl (t293.length : Int) rfl rfl Try.underlying28 (.slice none 0 0) 24 info22 rfl (by decide) (by omega) [] (ok := fun _ => True) (okp := fun _ => True) ⟨_, rfl, Kd.R_nil _ _ _ _ _⟩ (fun _ hk => hk) trivial (of_decide_eq_true (by with_reducible assumption)) (Nat.le_trans (Nat.mul_le_mul_right _ (of_decide_eq_true (by with_reducible assumption) : (t293.length : Int).toNat ≤ 11728124029610)) (by omega)) (Below.refl _ _) (Nat.le_refl _) ?_; intro v297 w9 ho10 hb hg_ hnew_; clear hg_ hnew_; rw [← Ny296.out] at ho10; have n0_ := Aside0.mk (Kd.R_below (by (with_reducible repeat (first | apply R_alloc | apply R_drewN | apply R_drew)); exact HO295.out) hb); have n1_ := Aside0.mk (Kd.S_lower (Kd.S_new' ho10 (R_lt (by (with_reducible repeat (first | apply R_alloc | apply R_drewN | apply R_drew)); exact HO295.out))) (below_size (by repeat with_reducible first | exact HB.out | apply below_alloc | apply pw_below_drewN | apply below_drew1 | refine below_set ?_ GE292.out))); have n2_ := Aside0.mk (blk_below (g := gb292) (o := .cells #[.int .i64 a0_0, .int .i64 a0_1, .slice A0_2 l0_2.length c0_2, .slice A0_3 l0_3.length c0_3] 25 (0, 0)) (by (with_reducible repeat (first | refine blk_drewN ?_ _ | refine blk_drew ?_ | refine blk_alloc ?_ _)); exact BK292.out) hb); have n3_ := Aside0.mk (below_step (by repeat with_reducible first | exact HB.out | apply below_alloc | apply pw_below_drewN | apply below_drew1 | refine below_set ?_ GE292.out) hb); clear HO295; clear BK292; clear HB; have HO295 := n0_; have HO298 := n1_; have BK292 := n2_; have HB := n3_; clear n0_ n1_ n2_ n3_; clear hb ho10))
  go_loopg [14] k (fun kq v14 w' => ∃ (x4_1 : List (List Int)) (x14_1 : Int), v14 = .int .i64 x14_1 ∧ Aside0 (dom_Under.l0 kq x4_1 t293 (t293.length : Int) x14_1 = some r) ∧ Aside0 (kq ≤ k) ∧ Aside0 (Kd.S (Kd.slice 3 (Kd.int .i64)) 22 w' w.heap.size (fun k_ => some k_ ≠ ((.slice Ao8 t293.length co8) : Value).ownBlock) v297 x4_1) ∧ Aside0 (Kd.R (Kd.int .i64) 3 w' w.heap.size (fun _ => True) (.slice Ao8 t293.length co8) t293) ∧ Aside0 (w'.heap[gb292]? = some (.cells #[.int .i64 a0_0, .int .i64 a0_1, (.slice A0_2 l0_2.length c0_2), (.slice A0_3 l0_3.length c0_3)] 25 (0, 0))) ∧ Aside0 (Below w.heap.size w w'))
  case atStart => exact ⟨(y296), (0), (by first | rfl | (simp; done) | (simp [*]; done)), H', ⟨Nat.le_refl _⟩, ⟨by (with_reducible repeat (first | apply S_alloc | apply S_drewN | apply S_drew)); exact S_mono HO298.out (fun _ hk => hk.2)⟩, ⟨by (with_reducible repeat (first | apply R_alloc | apply R_drewN | apply R_drew)); exact HO295.out⟩, ⟨by (with_reducible repeat (first | refine blk_drewN ?_ _ | refine blk_drew ?_ | refine blk_alloc ?_ _)); exact BK292.out⟩, ⟨by repeat (first | (with_reducible first | exact HB.out | apply below_alloc | apply pw_below_drewN | apply below_drew1 | refine below_set ?_ GE292.out) | exact HB.out)⟩⟩
  clear H'
  try clear c2
  try clear p2
  try clear c3
  try clear c3b0
  try clear c3b1
  try clear c4
  try clear c4b0
  try clear c4b1
  try clear hcz6_0
  try clear hcz6_1
  try clear hcz6_2
  try clear hcz6_3
  try clear hfz6_0
  try clear hfz6_1
  try clear hfz6_2
  try clear hfz6_3
  obtain ⟨x4_1, x14_1, rfl, HA, HK1, HO_4, HO_12, BK292, HB⟩ := hrel
  rcases gk with _ | k1
  · exact absurd HA.out (by simp [dom_Under.l0])
  have H := HA.out
  clear HA
  simp only [dom_Under.l0] at H
  by_cases c11 : x14_1 < (t293.length : Int)
  rotate_left
  · rw [if_neg c11] at H
    have c11b0 : decide (x14_1 < (t293.length : Int)) = false := decide_eq_false c11
    clear c11
    obtain rfl := Option.some.inj H
    go_wp2
    go_ret
    exact ⟨_, by first | rfl | (simp [errW_none, errW_some] <;> rfl) | (simp [*, errW_none, errW_some] <;> rfl), by (with_reducible repeat (first | apply S_alloc | apply S_drewN | apply S_drew)); exact S_mono HO_4.out (fun _ hk => trivial), by repeat (first | (with_reducible first | exact HB.out | apply below_alloc | apply pw_below_drewN | apply below_drew1 | refine below_set ?_ GE292.out) | exact HB.out)⟩
  rw [if_pos c11] at H
  have c11b0 : decide (x14_1 < (t293.length : Int)) = true := decide_eq_true c11
  clear c11
  by_cases c12 : 0 ≤ x14_1
  rotate_left
  · rw [if_neg c12] at H
    exact absurd H (by simp)
  rw [if_pos c12] at H
  have c12b0 : decide (0 ≤ x14_1) = true := decide_eq_true c12
  clear c12
  by_cases c13 : x14_1 < (t293.length : Int)
  rotate_left
  · rw [if_neg c13] at H
    exact absurd H (by simp)
  rw [if_pos c13] at H
  have c13b0 : decide (x14_1 < (t293.length : Int)) = true := decide_eq_true c13
  clear c13
  by_cases c14 : (rd t293 x14_1) ≥ 0
  · rw [if_pos c14] at H
    have c14b0 : decide (0 ≤ (rd t293 x14_1)) = true := decide_eq_true c14
    clear c14
    by_cases c15 : 0 ≤ (rd t293 x14_1)
    rotate_left
    · rw [if_neg c15] at H
      exact absurd H (by simp)
    rw [if_pos c15] at H
    have c15b0 : decide (0 ≤ (rd t293 x14_1)) = true := decide_eq_true c15
    clear c15
    by_cases c16 : (rd t293 x14_1) < (x4_1.length : Int)
    rotate_left
    · rw [if_neg c16] at H
      exact absurd H (by simp)
    rw [if_pos c16] at H
    have c16b0 : decide ((rd t293 x14_1) < (x4_1.length : Int)) = true := decide_eq_true c16
    clear c16
    by_cases c17 : (rd_L1 x4_1 (rd t293 x14_1)).length < 17592186044416
    rotate_left
    · rw [if_neg c17] at H
      exact absurd H (by simp)
    rw [if_pos c17] at H
    have LMc17 := Aside0.mk c17
    clear c17
    obtain ⟨y301, hy301⟩ : ∃ y_ : List Int, y_ = ((rd_L1 x4_1 (rd t293 x14_1)) ++ [x14_1]) := ⟨_, rfl⟩
    replace H : (dom_Under.l0 k1 (x4_1.set ((rd t293 x14_1) : Int).toNat y301) t293 (t293.length : Int) (wrap64 (x14_1 + 1))) = some r := by first | (rw [hy301]; with_reducible exact H) | (have H2_ := (Option.bind_some _ _).symm.trans H; rw [hy301]; with_reducible exact H2_) | exact H
    have Ny301 := Aside0.mk hy301
    clear hy301
    obtain ⟨y304, hy304⟩ : ∃ y_ : List (List Int), y_ = (x4_1.set ((rd t293 x14_1) : Int).toNat y301) := ⟨_, rfl⟩
    replace H : (dom_Under.l0 k1 y304 t293 (t293.length : Int) (wrap64 (x14_1 + 1))) = some r := by first | (rw [hy304]; with_reducible exact H) | (have H2_ := (Option.bind_some _ _).symm.trans H; rw [hy304]; with_reducible exact H2_) | exact H
    have Ny304 := Aside0.mk hy304
    clear hy304
    have H' := Aside0.mk H
    clear H
    have p299 : 0 ≤ (x14_1 : Int) := of_decide_eq_true (by with_reducible assumption)
    have q299 : x14_1 < (t293.length : Int) := of_decide_eq_true (by with_reducible assumption)
    obtain ⟨ad299, e299, hx299_0⟩ := Kd.at_int (R_reads' HO_12.out).2.2 x14_1 p299 q299
    cases e299
    replace p299 := eq_true p299
    replace q299 := eq_true q299
    obtain ⟨Ao19, co19, eo19⟩ := Kd.S_slice HO_4.out
    subst eo19
    have p300 : 0 ≤ ((rd t293 x14_1) : Int) := of_decide_eq_true (by with_reducible assumption)
    have q300 : (rd t293 x14_1) < (x4_1.length : Int) := of_decide_eq_true (by with_reducible assumption)
    obtain ⟨ad300, A300_0, c300_0, e300, hx300_0, hl300_0, hi300_0⟩ := at_L1 (S_reads' HO_4.out).2.2 (rd t293 x14_1) p300 q300
    cases e300
    obtain ⟨ce300, hce300, hMe300, hcc300⟩ := S_get HO_4.out [] (rd t293 x14_1) p300 (by first | exact q300 | exact of_decide_eq_true (by with_reducible assumption) | (have e_ := (S_reads' HO_4.out).1; omega))
    obtain ⟨ve300_0, rfl, ge300_0⟩ := hMe300
    have hv300_0 := hcc300 0 _ rfl
    rw [Nat.add_zero, show ((Kd.slice 3 (Kd.int .i64))).sz = 1 from rfl, Nat.mul_one] at hv300_0
    replace hv300_0 := Option.some.inj (hv300_0.symm.trans hx300_0)
    rw [hv300_0] at ge300_0
    have HL300_0 := Aside0.mk (show Kd.R (Kd.int .i64) 3 _ _ _ _ (rd_L1 x4_1 (rd t293 x14_1)) from ge300_0)
    clear hv300_0 ge300_0
    have HX300_0 := Aside0.mk hx300_0
    clear hcc300 hce300
    have HR300_0 := Aside0.mk hi300_0
    have HC300_0 := Aside0.mk hl300_0
    clear hi300_0 hl300_0
    replace p300 := eq_true p300
    replace q300 := eq_true q300
    obtain ⟨go20, co20, eo20, gb20, gl20, cl20, HG20⟩ := Kd.S_form HO_4.out (by have h_ : ((rd t293 x14_1) : Int) < ((x4_1.length : Int) : Int) := of_decide_eq_true (by with_reducible assumption); have h2_ : 0 ≤ ((rd t293 x14_1) : Int) := (of_decide_eq_true (by with_reducible assumption)); omega)
    (first | cases eo20 | (injection eo20 with ea_ en_ ec_; (first | subst ea_ | (injection ea_ with ea_; subst ea_)); subst ec_; clear en_))
    have GB20 := Aside0.mk gb20
    have GG20 := Aside0.mk HG20
    clear gb20 gl20 HG20
    (first | simp only [add_plain] at hx300_0 | skip)
    obtain ⟨oki20, ce20, hcl20, hM20, hcc20, _, _, hH20⟩ := Kd.S_elem HO_4.out [] ((rd t293 x14_1) : Int) (of_decide_eq_true (by with_reducible assumption)) (by have h_ : ((rd t293 x14_1) : Int) < ((x4_1.length : Int) : Int) := of_decide_eq_true (by with_reducible assumption); first | exact h_ | (have e_ := (S_reads' HO_4.out).1; omega) | simpa using h_)
    obtain ⟨ve20_0, rfl, ge20_0⟩ := hM20
    have hv20 := hcc20 0 _ rfl
    have hX20 := HX300_0.out
    (try simp only [add_plain] at hX20)
    (try simp only [Nat.add_zero] at hv20)
    (try rw [show ((Kd.slice 3 (Kd.int .i64))).sz = 1 from rfl, Nat.mul_one] at hv20)
    replace hv20 := Option.some.inj (hv20.symm.trans hX20)
    subst hv20
    clear hX20 hcc20 hcl20
    have UU20 := Aside0.mk (show Kd.R (Kd.int .i64) 3 _ w.heap.size oki20 (.slice A300_0 (rd_L1 x4_1 (rd t293 x14_1)).length c300_0) (rd_L1 x4_1 (rd t293 x14_1)) from ge20_0)
    have HH20 := Aside0.mk hH20
    have HN20 := Aside0.mk (S_reads' HO_4.out).1
    clear hH20 ge20_0
    go_wp2_with (first | ((with_reducible refine gate_builtin (b := .append) (xs := #[.tmp 26, .tmp 28]) rfl ?_); at_builtin; refine Kd.R_append (Kd.int .i64) (w0 := w) w.heap.size rfl (.tmp 26) (.tmp 28) 22 3 (.int .i64 0) 8 rfl Try.underlying22 info3 rfl (by decide) (by omega) (.slice A300_0 (rd_L1 x4_1 (rd t293 x14_1)).length c300_0) (rd_L1 x4_1 (rd t293 x14_1)) x14_1 [.int .i64 x14_1] (fun k_ => oki20 k_ ∨ ((fun k_ => some k_ ≠ (.slice (some ad299) t293.length co8 : Value).ownBlock)) k_ ∧ wr.heap.size ≤ k_) (fun _ => False) rfl rfl ?aP (fun _ hk => hk.elim) ?aF ?aO ?aB ?aS ?aL ?_; (case aP => exact rfl); (case aB => exact (by repeat with_reducible first | exact HB.out | apply below_alloc | apply pw_below_drewN | apply below_drew1 | refine below_set ?_ GE292.out)); (case aF => exact (fun k_ hk => .inr ⟨Kd.fresh' (R_lt (by (with_reducible repeat (first | apply R_alloc | apply R_drewN | apply R_drew)); exact HO_12.out)) k_ hk, hk⟩)); (case aO => exact (by (with_reducible repeat (first | apply R_alloc | apply R_drewN | apply R_drew)); exact R_mono UU20.out (fun _ hk => .inl hk))); (case aS => exact (below_size (by repeat with_reducible first | exact HB.out | apply below_alloc | apply pw_below_drewN | apply below_drew1 | refine below_set ?_ GE292.out))); (case aL => have := LMc17.out; omega); intro v302 w21 ho hb hg hat; rw [← Ny301.out] at ho; have n0_ := Aside0.mk (Kd.R_grown2 (by (with_reducible repeat (first | apply R_alloc | apply R_drewN | apply R_drew)); exact HO_12.out) rfl hg (fun k_ e_ => (HL300_0.out.1 k_ e_).1)); have n1_ := Aside0.mk (blk_grown (g := gb292) (o := .cells #[.int .i64 a0_0, .int .i64 a0_1, .slice A0_2 l0_2.length c0_2, .slice A0_3 l0_3.length c0_3] 25 (0, 0)) (by (with_reducible repeat (first | refine blk_drewN ?_ _ | refine blk_drew ?_ | refine blk_alloc ?_ _)); exact BK292.out) hg (Kd.R_ne HL300_0.out BK292.out (by decide))); have n2_ := Aside0.mk (hb); have n3_ := Aside0.mk (Kd.H_grown (Kd.H_widen (by repeat (first | exact HH20.out | refine Kd.H_alloc ?_ _ | refine Kd.H_drewN ?_ _ | refine Kd.H_drew ?_))) hg (fun k_ e_ => .inl (UU20.out.1 k_ e_))); have n4_ := Aside0.mk (ho); clear HO_12; clear BK292; clear HB; clear HH20; clear HO_4; clear UU20; clear HL300_0; have HO_12 := n0_; have BK292 := n1_; have HB := n2_; have HH20 := n3_; have HO303 := n4_; clear n0_ n1_ n2_ n3_ n4_; clear ho hb hg hat; have p18 : 0 ≤ ((rd t293 x14_1) : Int) := of_decide_eq_true (by with_reducible assumption); have q18 : ((rd t293 x14_1) : Int) < ((x4_1.length : Int) : Int) := of_decide_eq_true (by with_reducible assumption); replace p18 := eq_true p18; replace q18 := eq_true q18; obtain ⟨Ao24, co24, eo24⟩ := Kd.R_slice HO303.out; subst eo24; obtain ⟨_, _, hraw22, _, _, hcc22, _⟩ := Kd.H_raw HH20.out (of_decide_eq_true (by with_reducible assumption)) (by have h_ : ((rd t293 x14_1) : Int) < ((x4_1.length : Int) : Int) := of_decide_eq_true (by with_reducible assumption); first | exact h_ | (have e_ := (HN20.out); omega) | simpa using h_); obtain ⟨_, hfr22⟩ := Kd.H_at HH20.out (of_decide_eq_true (by with_reducible assumption)) (by have h_ : ((rd t293 x14_1) : Int) < ((x4_1.length : Int) : Int) := of_decide_eq_true (by with_reducible assumption); first | exact h_ | (have e_ := (HN20.out); omega) | simpa using h_); have hx22_0 := hcc22 0 _ rfl; have hf22_0 := hfr22 0; (try simp only [Nat.add_zero] at hx22_0 hf22_0); (try rw [show ((Kd.slice 3 (Kd.int .i64))).sz = 1 from rfl, Nat.mul_one] at hx22_0); (try rw [show ((Kd.slice 3 (Kd.int .i64))).sz = 1 from rfl, Nat.mul_one] at hf22_0); have HP22 := Kd.S_seg0 HH20.out (of_decide_eq_true (by with_reducible assumption)) (by have h_ : ((rd t293 x14_1) : Int) < ((x4_1.length : Int) : Int) := of_decide_eq_true (by with_reducible assumption); first | exact h_ | (have e_ := (HN20.out); omega) | simpa using h_) (seg := [.slice Ao24 y301.length co24]) (j := 0) (show 1 ≤ 1 from by decide) (x' := y301) (Kd.M_row HO303.out) (fun _ hk => hk); (try simp only [show ((Kd.slice 3 (Kd.int .i64))).sz = 1 from rfl, Nat.mul_one, Nat.add_zero] at HP22); clear hcc22 hfr22) | ((with_reducible refine gate_store (t := 22) (p := 30) rfl ?_); refine store_event (t := 22) (p := 30) (v := ?vo_w23) (w1 := (w21.setCell ⟨go20, ((rd t293 x14_1) : Int).toNat, none⟩ (.slice Ao24 y301.length co24))) ?hg ?ho ?hn ?hr ?_; (case ho => rfl); (case hg => rfl); (case hn => rfl); (case hr => first | (go_simp; done) | (go_simp; rfl)); intro w23 hw; have hg : w21.grownBy w23 (some go20) := (by rw [hw]; exact HP22.2); have hp_ : Kd.S (Kd.slice 3 (Kd.int .i64)) 22 w23 w.heap.size (fun k_ => some k_ ≠ (.slice (some ad299) t293.length co8 : Value).ownBlock) (.slice (some ⟨go20, 0, none⟩) x4_1.length co19) y304 := (by rw [hw, Ny304.out]; exact HP22.1); clear HP22; have n0_ := Aside0.mk (Kd.R_over' (v := (.slice (some ⟨go20, 0, none⟩) x4_1.length co19)) (by (with_reducible repeat (first | apply R_alloc | apply R_drewN | apply R_drew)); exact HO_12.out) (Kd.R_typed hraw22) (by decide) hg); have n1_ := Aside0.mk (blk_grown (g := gb292) (o := .cells #[.int .i64 a0_0, .int .i64 a0_1, .slice A0_2 l0_2.length c0_2, .slice A0_3 l0_3.length c0_3] 25 (0, 0)) (by (with_reducible repeat (first | refine blk_drewN ?_ _ | refine blk_drew ?_ | refine blk_alloc ?_ _)); exact BK292.out) hg (Kd.R_ne hraw22 BK292.out (by decide))); have n2_ := Aside0.mk ((by rw [hw]; exact below_set HB.out GB20.out : Below w.heap.size w w23)); have n3_ := Aside0.mk (hp_); clear HO_12; clear BK292; clear HB; clear HO303; clear HH20; have HO_12 := n0_; have BK292 := n1_; have HB := n2_; have HO_4 := n3_; clear n0_ n1_ n2_ n3_; clear hg hw hp_ hraw22))
    go_roundg k1
    case measure => have := HK1.out; omega
    case rel => exact ⟨(y304), (wrap64 (x14_1 + 1)), (by first | rfl | (simp; done) | (simp [*]; done)), H', ⟨by have := HK1.out; omega⟩, ⟨by (with_reducible repeat (first | apply S_alloc | apply S_drewN | apply S_drew)); exact HO_4.out⟩, ⟨by (with_reducible repeat (first | apply R_alloc | apply R_drewN | apply R_drew)); exact HO_12.out⟩, ⟨by (with_reducible repeat (first | refine blk_drewN ?_ _ | refine blk_drew ?_ | refine blk_alloc ?_ _)); exact BK292.out⟩, ⟨by repeat (first | (with_reducible first | exact HB.out | apply below_alloc | apply pw_below_drewN | apply below_drew1 | refine below_set ?_ GE292.out) | exact HB.out)⟩⟩
  rw [if_neg c14] at H
  have c14b0 : decide (0 ≤ (rd t293 x14_1)) = false := decide_eq_false c14
  clear c14
  have H' := Aside0.mk H
  clear H
  have p299 : 0 ≤ (x14_1 : Int) := of_decide_eq_true (by with_reducible assumption)
  have q299 : x14_1 < (t293.length : Int) := of_decide_eq_true (by with_reducible assumption)
  obtain ⟨ad299, e299, hx299_0⟩ := Kd.at_int (R_reads' HO_12.out).2.2 x14_1 p299 q299
  cases e299
  replace p299 := eq_true p299
  replace q299 := eq_true q299
  go_wp2
  go_roundg k1
  case measure => have := HK1.out; omega
  case rel => exact ⟨(x4_1), (wrap64 (x14_1 + 1)), (by first | rfl | (simp; done) | (simp [*]; done)), H', ⟨by have := HK1.out; omega⟩, ⟨by (with_reducible repeat (first | apply S_alloc | apply S_drewN | apply S_drew)); exact HO_4.out⟩, ⟨by (with_reducible repeat (first | apply R_alloc | apply R_drewN | apply R_drew)); exact HO_12.out⟩, ⟨by (with_reducible repeat (first | refine blk_drewN ?_ _ | refine blk_drew ?_ | refine blk_alloc ?_ _)); exact BK292.out⟩, ⟨by repeat (first | (with_reducible first | exact HB.out | apply below_alloc | apply pw_below_drewN | apply below_drew1 | refine below_set ?_ GE292.out) | exact HB.out)⟩⟩
end Go.Proofs.Ytpionncanaamgaa.PDomStays
