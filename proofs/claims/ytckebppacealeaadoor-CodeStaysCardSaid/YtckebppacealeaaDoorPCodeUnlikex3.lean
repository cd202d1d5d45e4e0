-- Laid by a program of this session (wip/pp/patch.py over the kit's print).
import Derived.Test.YtckebppacealeaaDoorPCodeUnlikex0
namespace Go.Proofs.YtckebppacealeaaDoor.PCodeUnlike
open Go.RowKit Go.Proofs.YtckebppacealeaaDoorW.PrintWords Go.Proofs.YtckebppacealeaaDoorW.PrintLast Go.Proofs.YtckebppacealeaaDoorW.PrintMore Go.Proofs.YtckebppacealeaaDoorW.PrintWords.Kd
attribute [local go_sem] max2_int min2_int max_two min_two max_three min_three max_four min_four   -- for this text's walks alone
attribute [local go_sem] eqErr29 neErr29 nilErr29
set_option linter.unusedVariables false
set_option linter.unusedSimpArgs false

/-! ### fettleref02_Small: function 10 -/
mutual
def fettleref02_Small.l0 : Nat → Int → List (S50) → Option (Bool)
  | 0, _, _ => none
  | k + 1, x3, x233000 => if x3 < (x233000.length : Int) then (if 0 ≤ x3 then (if (((rd_T50 x233000 x3).f3).length : Int) > 70 then (fettleref02_Small.j1 k x3 true x233000 ((rd_T50 x233000 x3).f0) ((rd_T50 x233000 x3).f1) ((rd_T50 x233000 x3).f2) ((rd_T50 x233000 x3).f3)) else (if (((rd_T50 x233000 x3).f2).length : Int) > 300 then (fettleref02_Small.j1 k x3 true x233000 ((rd_T50 x233000 x3).f0) ((rd_T50 x233000 x3).f1) ((rd_T50 x233000 x3).f2) ((rd_T50 x233000 x3).f3)) else (fettleref02_Small.j1 k x3 (decide (((rd_T50 x233000 x3).f0) > 1000)) x233000 ((rd_T50 x233000 x3).f0) ((rd_T50 x233000 x3).f1) ((rd_T50 x233000 x3).f2) ((rd_T50 x233000 x3).f3)))) else (none)) else (some true)
def fettleref02_Small.j1 : Nat → Int → Bool → List (S50) → Int → Int → List Int → List (S56) → Option (Bool)
  | 0, _, _, _, _, _, _, _ => none
  | k + 1, x3, x39, x233000, x235000, x235001, x235002, x235003 => if x39 = true then (some false) else (fettleref02_Small.l1 k x3 0 x233000 x235000 x235001 x235002 x235003)
def fettleref02_Small.l1 : Nat → Int → Int → List (S50) → Int → Int → List Int → List (S56) → Option (Bool)
  | 0, _, _, _, _, _, _, _ => none
  | k + 1, x3, x5, x233000, x235000, x235001, x235002, x235003 => if x5 < (x235003.length : Int) then (if 0 ≤ x5 then (if (((rd_T56 x235003 x5).f1).length : Int) > 300 then (fettleref02_Small.j3 k x3 x5 true x233000 x235000 x235001 x235002 x235003 ((rd_T56 x235003 x5).f0) ((rd_T56 x235003 x5).f1) ((rd_T56 x235003 x5).f2.f0) ((rd_T56 x235003 x5).f2.f1) ((rd_T56 x235003 x5).f2.f2)) else (if (((rd_T56 x235003 x5).f0).length : Int) > 300 then (fettleref02_Small.j3 k x3 x5 true x233000 x235000 x235001 x235002 x235003 ((rd_T56 x235003 x5).f0) ((rd_T56 x235003 x5).f1) ((rd_T56 x235003 x5).f2.f0) ((rd_T56 x235003 x5).f2.f1) ((rd_T56 x235003 x5).f2.f2)) else (fettleref02_Small.j3 k x3 x5 (decide ((((rd_T56 x235003 x5).f2.f2).length : Int) > 70)) x233000 x235000 x235001 x235002 x235003 ((rd_T56 x235003 x5).f0) ((rd_T56 x235003 x5).f1) ((rd_T56 x235003 x5).f2.f0) ((rd_T56 x235003 x5).f2.f1) ((rd_T56 x235003 x5).f2.f2)))) else (none)) else (fettleref02_Small.l0 k (wrap64 (x3 + 1)) x233000)
def fettleref02_Small.j3 : Nat → Int → Int → Bool → List (S50) → Int → Int → List Int → List (S56) → List (S60) → List (S58) → Int → Int → List Int → Option (Bool)
  | 0, _, _, _, _, _, _, _, _, _, _, _, _, _ => none
  | k + 1, x3, x5, x68, x233000, x235000, x235001, x235002, x235003, x237000, x237001, x237002, x237003, x237004 => if x68 = true then (some false) else (fettleref02_Small.l2 k x3 x5 0 x233000 x235000 x235001 x235002 x235003 x237000 x237001 x237002 x237003 x237004)
def fettleref02_Small.l2 : Nat → Int → Int → Int → List (S50) → Int → Int → List Int → List (S56) → List (S60) → List (S58) → Int → Int → List Int → Option (Bool)
  | 0, _, _, _, _, _, _, _, _, _, _, _, _, _ => none
  | k + 1, x3, x5, x7, x233000, x235000, x235001, x235002, x235003, x237000, x237001, x237002, x237003, x237004 => if x7 < (x237001.length : Int) then (if 0 ≤ x7 then (if (((rd_T58 x237001 x7).f2).length : Int) > 300 then (some false) else (fettleref02_Small.l2 k x3 x5 (wrap64 (x7 + 1)) x233000 x235000 x235001 x235002 x235003 x237000 x237001 x237002 x237003 x237004)) else (none)) else (fettleref02_Small.l3 k x3 x5 0 x233000 x235000 x235001 x235002 x235003 x237000 x237001 x237002 x237003 x237004)
def fettleref02_Small.l3 : Nat → Int → Int → Int → List (S50) → Int → Int → List Int → List (S56) → List (S60) → List (S58) → Int → Int → List Int → Option (Bool)
  | 0, _, _, _, _, _, _, _, _, _, _, _, _, _ => none
  | k + 1, x3, x5, x8, x233000, x235000, x235001, x235002, x235003, x237000, x237001, x237002, x237003, x237004 => if x8 < (x237000.length : Int) then (if 0 ≤ x8 then (if (((rd_T60 x237000 x8).f1).length : Int) > 300 then (some false) else (fettleref02_Small.l3 k x3 x5 (wrap64 (x8 + 1)) x233000 x235000 x235001 x235002 x235003 x237000 x237001 x237002 x237003 x237004)) else (none)) else (fettleref02_Small.l1 k x3 (wrap64 (x5 + 1)) x233000 x235000 x235001 x235002 x235003)
end
def fettleref02_Small.f (k : Nat) (l0_0 : List (S50)) : Option (Bool) := if (l0_0.length : Int) > 40 then (some false) else (fettleref02_Small.l0 k 0 l0_0)
theorem fettleref02_Small.mono_l : ∀ k, (∀ y0 y1, LeO (fettleref02_Small.l0 k y0 y1) (fettleref02_Small.l0 (k + 1) y0 y1)) ∧ (∀ y0 y1 y2 y3 y4 y5 y6, LeO (fettleref02_Small.j1 k y0 y1 y2 y3 y4 y5 y6) (fettleref02_Small.j1 (k + 1) y0 y1 y2 y3 y4 y5 y6)) ∧ (∀ y0 y1 y2 y3 y4 y5 y6, LeO (fettleref02_Small.l1 k y0 y1 y2 y3 y4 y5 y6) (fettleref02_Small.l1 (k + 1) y0 y1 y2 y3 y4 y5 y6)) ∧ (∀ y0 y1 y2 y3 y4 y5 y6 y7 y8 y9 y10 y11 y12, LeO (fettleref02_Small.j3 k y0 y1 y2 y3 y4 y5 y6 y7 y8 y9 y10 y11 y12) (fettleref02_Small.j3 (k + 1) y0 y1 y2 y3 y4 y5 y6 y7 y8 y9 y10 y11 y12)) ∧ (∀ y0 y1 y2 y3 y4 y5 y6 y7 y8 y9 y10 y11 y12, LeO (fettleref02_Small.l2 k y0 y1 y2 y3 y4 y5 y6 y7 y8 y9 y10 y11 y12) (fettleref02_Small.l2 (k + 1) y0 y1 y2 y3 y4 y5 y6 y7 y8 y9 y10 y11 y12)) ∧ (∀ y0 y1 y2 y3 y4 y5 y6 y7 y8 y9 y10 y11 y12, LeO (fettleref02_Small.l3 k y0 y1 y2 y3 y4 y5 y6 y7 y8 y9 y10 y11 y12) (fettleref02_Small.l3 (k + 1) y0 y1 y2 y3 y4 y5 y6 y7 y8 y9 y10 y11 y12))
  | 0 => ⟨fun _ _ r h => by simp [fettleref02_Small.l0] at h, fun _ _ _ _ _ _ _ r h => by simp [fettleref02_Small.j1] at h, fun _ _ _ _ _ _ _ r h => by simp [fettleref02_Small.l1] at h, fun _ _ _ _ _ _ _ _ _ _ _ _ _ r h => by simp [fettleref02_Small.j3] at h, fun _ _ _ _ _ _ _ _ _ _ _ _ _ r h => by simp [fettleref02_Small.l2] at h, fun _ _ _ _ _ _ _ _ _ _ _ _ _ r h => by simp [fettleref02_Small.l3] at h⟩
  | k + 1 => by
    obtain ⟨ih0, ih1, ih2, ih3, ih4, ih5⟩ := fettleref02_Small.mono_l k
    refine ⟨?_, ?_, ?_, ?_, ?_, ?_⟩
    · intro y0 y1
      unfold fettleref02_Small.l0
      repeat' first
      | (with_reducible exact ih0 _ _)
      | (with_reducible exact ih1 _ _ _ _ _ _ _)
      | (with_reducible exact ih2 _ _ _ _ _ _ _)
      | (with_reducible exact ih3 _ _ _ _ _ _ _ _ _ _ _ _ _)
      | (with_reducible exact ih4 _ _ _ _ _ _ _ _ _ _ _ _ _)
      | (with_reducible exact ih5 _ _ _ _ _ _ _ _ _ _ _ _ _)
      | (with_reducible exact LeO.refl _)
      | (with_reducible exact LeO.none _)
      | (with_reducible refine LeO.ite ?_ ?_)
      | (with_reducible refine LeO.bind ?_ (fun _ => ?_))
      | exact ih0 _ _
      | exact ih1 _ _ _ _ _ _ _
      | exact ih2 _ _ _ _ _ _ _
      | exact ih3 _ _ _ _ _ _ _ _ _ _ _ _ _
      | exact ih4 _ _ _ _ _ _ _ _ _ _ _ _ _
      | exact ih5 _ _ _ _ _ _ _ _ _ _ _ _ _
      | exact LeO.none _
      | refine LeO.ite ?_ ?_
      | refine LeO.bind ?_ (fun _ => ?_)
    · intro y0 y1 y2 y3 y4 y5 y6
      unfold fettleref02_Small.j1
      repeat' first
      | (with_reducible exact ih0 _ _)
      | (with_reducible exact ih1 _ _ _ _ _ _ _)
      | (with_reducible exact ih2 _ _ _ _ _ _ _)
      | (with_reducible exact ih3 _ _ _ _ _ _ _ _ _ _ _ _ _)
      | (with_reducible exact ih4 _ _ _ _ _ _ _ _ _ _ _ _ _)
      | (with_reducible exact ih5 _ _ _ _ _ _ _ _ _ _ _ _ _)
      | (with_reducible exact LeO.refl _)
      | (with_reducible exact LeO.none _)
      | (with_reducible refine LeO.ite ?_ ?_)
      | (with_reducible refine LeO.bind ?_ (fun _ => ?_))
      | exact ih0 _ _
      | exact ih1 _ _ _ _ _ _ _
      | exact ih2 _ _ _ _ _ _ _
      | exact ih3 _ _ _ _ _ _ _ _ _ _ _ _ _
      | exact ih4 _ _ _ _ _ _ _ _ _ _ _ _ _
      | exact ih5 _ _ _ _ _ _ _ _ _ _ _ _ _
      | exact LeO.none _
      | refine LeO.ite ?_ ?_
      | refine LeO.bind ?_ (fun _ => ?_)
    · intro y0 y1 y2 y3 y4 y5 y6
      unfold fettleref02_Small.l1
      repeat' first
      | (with_reducible exact ih0 _ _)
      | (with_reducible exact ih1 _ _ _ _ _ _ _)
      | (with_reducible exact ih2 _ _ _ _ _ _ _)
      | (with_reducible exact ih3 _ _ _ _ _ _ _ _ _ _ _ _ _)
      | (with_reducible exact ih4 _ _ _ _ _ _ _ _ _ _ _ _ _)
      | (with_reducible exact ih5 _ _ _ _ _ _ _ _ _ _ _ _ _)
      | (with_reducible exact LeO.refl _)
      | (with_reducible exact LeO.none _)
      | (with_reducible refine LeO.ite ?_ ?_)
      | (with_reducible refine LeO.bind ?_ (fun _ => ?_))
      | exact ih0 _ _
      | exact ih1 _ _ _ _ _ _ _
      | exact ih2 _ _ _ _ _ _ _
      | exact ih3 _ _ _ _ _ _ _ _ _ _ _ _ _
      | exact ih4 _ _ _ _ _ _ _ _ _ _ _ _ _
      | exact ih5 _ _ _ _ _ _ _ _ _ _ _ _ _
      | exact LeO.none _
      | refine LeO.ite ?_ ?_
      | refine LeO.bind ?_ (fun _ => ?_)
    · intro y0 y1 y2 y3 y4 y5 y6 y7 y8 y9 y10 y11 y12
      unfold fettleref02_Small.j3
      repeat' first
      | (with_reducible exact ih0 _ _)
      | (with_reducible exact ih1 _ _ _ _ _ _ _)
      | (with_reducible exact ih2 _ _ _ _ _ _ _)
      | (with_reducible exact ih3 _ _ _ _ _ _ _ _ _ _ _ _ _)
      | (with_reducible exact ih4 _ _ _ _ _ _ _ _ _ _ _ _ _)
      | (with_reducible exact ih5 _ _ _ _ _ _ _ _ _ _ _ _ _)
      | (with_reducible exact LeO.refl _)
      | (with_reducible exact LeO.none _)
      | (with_reducible refine LeO.ite ?_ ?_)
      | (with_reducible refine LeO.bind ?_ (fun _ => ?_))
      | exact ih0 _ _
      | exact ih1 _ _ _ _ _ _ _
      | exact ih2 _ _ _ _ _ _ _
      | exact ih3 _ _ _ _ _ _ _ _ _ _ _ _ _
      | exact ih4 _ _ _ _ _ _ _ _ _ _ _ _ _
      | exact ih5 _ _ _ _ _ _ _ _ _ _ _ _ _
      | exact LeO.none _
      | refine LeO.ite ?_ ?_
      | refine LeO.bind ?_ (fun _ => ?_)
    · intro y0 y1 y2 y3 y4 y5 y6 y7 y8 y9 y10 y11 y12
      unfold fettleref02_Small.l2
      repeat' first
      | (with_reducible exact ih0 _ _)
      | (with_reducible exact ih1 _ _ _ _ _ _ _)
      | (with_reducible exact ih2 _ _ _ _ _ _ _)
      | (with_reducible exact ih3 _ _ _ _ _ _ _ _ _ _ _ _ _)
      | (with_reducible exact ih4 _ _ _ _ _ _ _ _ _ _ _ _ _)
      | (with_reducible exact ih5 _ _ _ _ _ _ _ _ _ _ _ _ _)
      | (with_reducible exact LeO.refl _)
      | (with_reducible exact LeO.none _)
      | (with_reducible refine LeO.ite ?_ ?_)
      | (with_reducible refine LeO.bind ?_ (fun _ => ?_))
      | exact ih0 _ _
      | exact ih1 _ _ _ _ _ _ _
      | exact ih2 _ _ _ _ _ _ _
      | exact ih3 _ _ _ _ _ _ _ _ _ _ _ _ _
      | exact ih4 _ _ _ _ _ _ _ _ _ _ _ _ _
      | exact ih5 _ _ _ _ _ _ _ _ _ _ _ _ _
      | exact LeO.none _
      | refine LeO.ite ?_ ?_
      | refine LeO.bind ?_ (fun _ => ?_)
    · intro y0 y1 y2 y3 y4 y5 y6 y7 y8 y9 y10 y11 y12
      unfold fettleref02_Small.l3
      repeat' first
      | (with_reducible exact ih0 _ _)
      | (with_reducible exact ih1 _ _ _ _ _ _ _)
      | (with_reducible exact ih2 _ _ _ _ _ _ _)
      | (with_reducible exact ih3 _ _ _ _ _ _ _ _ _ _ _ _ _)
      | (with_reducible exact ih4 _ _ _ _ _ _ _ _ _ _ _ _ _)
      | (with_reducible exact ih5 _ _ _ _ _ _ _ _ _ _ _ _ _)
      | (with_reducible exact LeO.refl _)
      | (with_reducible exact LeO.none _)
      | (with_reducible refine LeO.ite ?_ ?_)
      | (with_reducible refine LeO.bind ?_ (fun _ => ?_))
      | exact ih0 _ _
      | exact ih1 _ _ _ _ _ _ _
      | exact ih2 _ _ _ _ _ _ _
      | exact ih3 _ _ _ _ _ _ _ _ _ _ _ _ _
      | exact ih4 _ _ _ _ _ _ _ _ _ _ _ _ _
      | exact ih5 _ _ _ _ _ _ _ _ _ _ _ _ _
      | exact LeO.none _
      | refine LeO.ite ?_ ?_
      | refine LeO.bind ?_ (fun _ => ?_)
theorem fettleref02_Small.mono : ∀ a0 k, LeO (fettleref02_Small.f k a0) (fettleref02_Small.f (k + 1) a0) := by
  intro a0 k
  obtain ⟨ih0, ih1, ih2, ih3, ih4, ih5⟩ := fettleref02_Small.mono_l k
  unfold fettleref02_Small.f
  repeat' first
      | (with_reducible exact ih0 _ _)
      | (with_reducible exact ih1 _ _ _ _ _ _ _)
      | (with_reducible exact ih2 _ _ _ _ _ _ _)
      | (with_reducible exact ih3 _ _ _ _ _ _ _ _ _ _ _ _ _)
      | (with_reducible exact ih4 _ _ _ _ _ _ _ _ _ _ _ _ _)
      | (with_reducible exact ih5 _ _ _ _ _ _ _ _ _ _ _ _ _)
      | (with_reducible exact LeO.refl _)
      | (with_reducible exact LeO.none _)
      | (with_reducible refine LeO.ite ?_ ?_)
      | (with_reducible refine LeO.bind ?_ (fun _ => ?_))
      | exact ih0 _ _
      | exact ih1 _ _ _ _ _ _ _
      | exact ih2 _ _ _ _ _ _ _
      | exact ih3 _ _ _ _ _ _ _ _ _ _ _ _ _
      | exact ih4 _ _ _ _ _ _ _ _ _ _ _ _ _
      | exact ih5 _ _ _ _ _ _ _ _ _ _ _ _ _
      | exact LeO.none _
      | refine LeO.ite ?_ ?_
      | refine LeO.bind ?_ (fun _ => ?_)
set_option maxHeartbeats 8000000 in
set_option maxRecDepth 100000 in
theorem fettleref02_Small.calls (k : Nat) (A0_0 : Option Addr) (c0_0 : Nat) (l0_0 : List (S50)) (r : Bool) (w : World) (hr0_0 : Kd.C k50 w A0_0 l0_0.length l0_0) (hc0_0 : l0_0.length ≤ c0_0) (h : fettleref02_Small.f k l0_0 = some r) :
    Calls Tryd.prog 10 #[.agg #[.slice A0_0 l0_0.length c0_0]] w fun e w' => e = .returned (.bool r) ∧ Below w.heap.size w w' := by
  have hu24 := Tryd.underlying24
  have hu50 := Tryd.underlying50
  have hu56 := Tryd.underlying56
  have HR0_0 := Aside0.mk hr0_0
  have HC0_0 := Aside0.mk hc0_0
  clear hr0_0 hc0_0
  have HB := Aside0.mk (Below.refl w.heap.size w)
  have H : (if (l0_0.length : Int) > 40 then (some false) else (fettleref02_Small.l0 k 0 l0_0)) = some r := h
  clear h
  by_cases c2 : (l0_0.length : Int) > 40
  · rw [if_pos c2] at H
    have c2b0 : decide (40 < (l0_0.length : Int)) = true := decide_eq_true c2
    have c2b1 : decide (40 < l0_0.length) = true := decide_eq_true (by omega)
    clear c2
    obtain rfl := Option.some.inj H
    go_enter Tryd.func10, Tryd.ntmps10
    go_wp2_with (first | ((with_reducible refine gate_dst (N := 1) rfl ?_); (try (refine gate_guard (by rfl) ?_; dsimp only)); refine box_event ?hg (N := 1) ?hd (cs := #[.slice A0_0 l0_0.length c0_0]) (t := 24) ?hr ?_; (case hd => rfl); (case hg => rfl); (case hr => first | (go_simp; done) | (go_simp; rfl)); intro gb232 hg w3 hbox hb; have n0_ := Aside0.mk (below_step (by repeat with_reducible first | exact HB.out | apply below_alloc | apply pw_below_drewN | apply below_drew1) hb); have n1_ := Aside0.mk (hbox); have n2_ := Aside0.mk ((by rw [hg]; exact (below_size (by repeat with_reducible first | exact HB.out | apply below_alloc | apply pw_below_drewN | apply below_drew1)) : w.heap.size ≤ gb232)); have n3_ := Aside0.mk ((by rw [hg]; exact (below_size (by repeat with_reducible first | exact HB.out | apply below_alloc | apply pw_below_drewN | apply below_drew1)) : w.heap.size ≤ gb232)); clear HB; have HB := n0_; have BK232 := n1_; have GW232 := n2_; have GE232 := n3_; clear n0_ n1_ n2_ n3_; clear hb hbox hg; have hcz4_0 : w3.cell? ⟨gb232, 0, none⟩ = some (.slice A0_0 l0_0.length c0_0) := (blk_cell BK232.out 0).trans rfl; have hfz4_0 := blk_frozen BK232.out 0))
    go_ret
    exact ⟨by first | rfl | (simp [errW_none, errW_some] <;> rfl) | (simp [*, errW_none, errW_some] <;> rfl), by repeat (first | (with_reducible first | exact HB.out | apply below_alloc | apply pw_below_drewN | apply below_drew1 | refine below_set ?_ GE232.out) | exact HB.out)⟩
  rw [if_neg c2] at H
  have c2b0 : decide (40 < (l0_0.length : Int)) = false := decide_eq_false c2
  have c2b1 : decide (40 < l0_0.length) = false := decide_eq_false (by omega)
  clear c2
  have H' := Aside0.mk H
  clear H
  go_enter Tryd.func10, Tryd.ntmps10
  go_wp2_with (first | ((with_reducible refine gate_dst (N := 1) rfl ?_); (try (refine gate_guard (by rfl) ?_; dsimp only)); refine box_event ?hg (N := 1) ?hd (cs := #[.slice A0_0 l0_0.length c0_0]) (t := 24) ?hr ?_; (case hd => rfl); (case hg => rfl); (case hr => first | (go_simp; done) | (go_simp; rfl)); intro gb232 hg w5 hbox hb; have n0_ := Aside0.mk (below_step (by repeat with_reducible first | exact HB.out | apply below_alloc | apply pw_below_drewN | apply below_drew1) hb); have n1_ := Aside0.mk (hbox); have n2_ := Aside0.mk ((by rw [hg]; exact (below_size (by repeat with_reducible first | exact HB.out | apply below_alloc | apply pw_below_drewN | apply below_drew1)) : w.heap.size ≤ gb232)); have n3_ := Aside0.mk ((by rw [hg]; exact (below_size (by repeat with_reducible first | exact HB.out | apply below_alloc | apply pw_below_drewN | apply below_drew1)) : w.heap.size ≤ gb232)); clear HB; have HB := n0_; have BK232 := n1_; have GW232 := n2_; have GE232 := n3_; clear n0_ n1_ n2_ n3_; clear hb hbox hg; have hcz6_0 : w5.cell? ⟨gb232, 0, none⟩ = some (.slice A0_0 l0_0.length c0_0) := (blk_cell BK232.out 0).trans rfl; have hfz6_0 := blk_frozen BK232.out 0))
  go_loopg [3] k (fun kq v3 w' => ∃ (x3_1 : Int), v3 = .int .i64 x3_1 ∧ Aside0 (fettleref02_Small.l0 kq x3_1 l0_0 = some r) ∧ Aside0 (kq ≤ k) ∧ Aside0 (w'.heap[gb232]? = some (.cells #[(.slice A0_0 l0_0.length c0_0)] 24 (0, 0))) ∧ Aside0 (Below w.heap.size w w'))
  case atStart => exact ⟨(0), (by first | rfl | (simp; done) | (simp [*]; done)), H', ⟨Nat.le_refl _⟩, ⟨by (with_reducible repeat (first | refine blk_drewN ?_ _ | refine blk_drew ?_ | refine blk_alloc ?_ _)); exact BK232.out⟩, ⟨by repeat (first | (with_reducible first | exact HB.out | apply below_alloc | apply pw_below_drewN | apply below_drew1 | refine below_set ?_ GE232.out) | exact HB.out)⟩⟩
  clear H'
  try clear c1
  try clear c2
  try clear c2b0
  try clear c2b1
  try clear p2
  try clear hcz4_0
  try clear hcz6_0
  try clear hfz4_0
  try clear hfz6_0
  obtain ⟨x3_1, rfl, HA, HK1, BK232, HB⟩ := hrel
  rcases gk with _ | k1
  · exact absurd HA.out (by simp [fettleref02_Small.l0])
  have H := HA.out
  clear HA
  simp only [fettleref02_Small.l0] at H
  by_cases c7 : x3_1 < (l0_0.length : Int)
  · rw [if_pos c7] at H
    have c7b0 : decide (x3_1 < (l0_0.length : Int)) = true := decide_eq_true c7
    clear c7
    by_cases c8 : 0 ≤ x3_1
    rotate_left
    · rw [if_neg c8] at H
      exact absurd H (by simp)
    rw [if_pos c8] at H
    have c8b0 : decide (0 ≤ x3_1) = true := decide_eq_true c8
    clear c8
    have HC9 := Aside0.mk H
    clear H
    have hcz10_0 : wr.cell? ⟨gb232, 0, none⟩ = some (.slice A0_0 l0_0.length c0_0) := (blk_cell BK232.out 0).trans rfl
    have hfz10_0 := blk_frozen BK232.out 0
    have p233 : 0 ≤ (x3_1 : Int) := of_decide_eq_true (by with_reducible assumption)
    have q233 : x3_1 < (l0_0.length : Int) := of_decide_eq_true (by with_reducible assumption)
    obtain ⟨ad233, A233_2, c233_2, A233_3, c233_3, e233, hx233_0, hx233_1, hx233_2, hx233_3, hl233_2, hi233_2, hl233_3, hi233_3⟩ := at_T50 HR0_0.out x3_1 p233 q233
    cases e233
    replace hx233_0 := (HB.out.cell (World.block_lt_of_cell? w _ hx233_0)).trans hx233_0
    replace hx233_1 := (HB.out.cell (World.block_lt_of_cell? w _ hx233_1)).trans hx233_1
    replace hx233_2 := (HB.out.cell (World.block_lt_of_cell? w _ hx233_2)).trans hx233_2
    replace hx233_3 := (HB.out.cell (World.block_lt_of_cell? w _ hx233_3)).trans hx233_3
    have HR233_2 := Aside0.mk hi233_2
    have HC233_2 := Aside0.mk hl233_2
    clear hi233_2 hl233_2
    have HR233_3 := Aside0.mk hi233_3
    have HC233_3 := Aside0.mk hl233_3
    clear hi233_3 hl233_3
    replace p233 := eq_true p233
    replace q233 := eq_true q233
    go_upto_region 7 with (first | ((with_reducible refine gate_dst (N := 4) rfl ?_); (try (refine gate_guard (by rfl) ?_; dsimp only)); refine box_event ?hg (N := 4) ?hd (cs := #[.int .i64 0, .int .i64 0, .slice none 0 0, .slice none 0 0]) (t := 50) ?hr ?_; (case hd => rfl); (case hg => rfl); (case hr => first | (go_simp; done) | (go_simp; rfl)); intro gb234 hg w11 hbox hb; have n0_ := Aside0.mk (blk_below (g := gb232) (o := .cells #[.slice (some ad233) l0_0.length c0_0] 24 (0, 0)) (by (with_reducible repeat (first | refine blk_drewN ?_ _ | refine blk_drew ?_ | refine blk_alloc ?_ _)); exact BK232.out) hb); have n1_ := Aside0.mk (below_step (by repeat with_reducible first | exact HB.out | apply below_alloc | apply pw_below_drewN | apply below_drew1 | refine below_set ?_ GE232.out) hb); have n2_ := Aside0.mk (hbox); have n3_ := Aside0.mk ((by rw [hg]; exact (below_size (by repeat with_reducible first | exact HB.out | apply below_alloc | apply pw_below_drewN | apply below_drew1 | refine below_set ?_ GE232.out)) : w.heap.size ≤ gb234)); have n4_ := Aside0.mk ((by rw [hg]; exact (below_size (by repeat with_reducible first | exact HB.out | apply below_alloc | apply pw_below_drewN | apply below_drew1 | refine below_set ?_ GE232.out)) : w.heap.size ≤ gb234)); have n5_ := Aside0.mk ((by rw [hg]; exact Nat.ne_of_lt (blk_lt (g := gb232) (o := .cells #[.slice (some ad233) l0_0.length c0_0] 24 (0, 0)) (by (with_reducible repeat (first | refine blk_drewN ?_ _ | refine blk_drew ?_ | refine blk_alloc ?_ _)); exact BK232.out)) : gb232 ≠ gb234)); have n6_ := Aside0.mk ((by rw [hg]; exact Nat.ne_of_gt (blk_lt (g := gb232) (o := .cells #[.slice (some ad233) l0_0.length c0_0] 24 (0, 0)) (by (with_reducible repeat (first | refine blk_drewN ?_ _ | refine blk_drew ?_ | refine blk_alloc ?_ _)); exact BK232.out)) : gb234 ≠ gb232)); clear BK232; clear HB; have BK232 := n0_; have HB := n1_; have BK234 := n2_; have GW234 := n3_; have GE234 := n4_; have NB232_234 := n5_; have NB234_232 := n6_; clear n0_ n1_ n2_ n3_ n4_ n5_ n6_; clear hb hbox hg; have hnb12 := NB234_232.out; have hnc12 := NB232_234.out; have hcz13_0 : w11.cell? ⟨gb234, 0, none⟩ = some (.int .i64 0) := (blk_cell BK234.out 0).trans rfl; have hcz13_1 : w11.cell? ⟨gb234, 1, none⟩ = some (.int .i64 0) := (blk_cell BK234.out 1).trans rfl; have hcz13_2 : w11.cell? ⟨gb234, 2, none⟩ = some (.slice none 0 0) := (blk_cell BK234.out 2).trans rfl; have hcz13_3 : w11.cell? ⟨gb234, 3, none⟩ = some (.slice none 0 0) := (blk_cell BK234.out 3).trans rfl; have hfz13_0 := blk_frozen BK234.out 0; have hfz13_1 := blk_frozen BK234.out 1; have hfz13_2 := blk_frozen BK234.out 2; have hfz13_3 := blk_frozen BK234.out 3))
    (try simp only [Act.put, List.setIfInBounds_toArray, List.set_cons_zero, List.set_cons_succ])
    go_cut [39] (fun v39 wc => ∃ (kq : Nat) (x39_8 : Bool), v39 = .bool x39_8 ∧ Aside0 (fettleref02_Small.j1 kq x3_1 x39_8 l0_0 ((rd_T50 l0_0 x3_1).f0) ((rd_T50 l0_0 x3_1).f1) ((rd_T50 l0_0 x3_1).f2) ((rd_T50 l0_0 x3_1).f3) = some r) ∧ Aside0 (kq ≤ k1) ∧ Aside0 (wc.heap[gb232]? = some (.cells #[(.slice (some ad233) l0_0.length c0_0)] 24 (0, 0))) ∧ Aside0 (wc.heap[gb234]? = some (.cells #[.int .i64 ((rd_T50 l0_0 x3_1).f0), .int .i64 ((rd_T50 l0_0 x3_1).f1), (.slice A233_2 ((rd_T50 l0_0 x3_1).f2).length c233_2), (.slice A233_3 ((rd_T50 l0_0 x3_1).f3).length c233_3)] 50 (0, 0))) ∧ Aside0 (Below w.heap.size w wc))
    case first =>
      have H := HC9.out
      clear HC9
      by_cases c14 : (((rd_T50 l0_0 x3_1).f3).length : Int) > 70
      · rw [if_pos c14] at H
        have c14b0 : decide (70 < (((rd_T50 l0_0 x3_1).f3).length : Int)) = true := decide_eq_true c14
        have c14b1 : decide (70 < ((rd_T50 l0_0 x3_1).f3).length) = true := decide_eq_true (by omega)
        clear c14
        (first | rw [c14b0] | (simp only [i64_w, i32_w]; rw [c14b0]) | skip)
        have H' := Aside0.mk H
        clear H
        have hnb15 := NB234_232.out
        have hnc15 := NB232_234.out
        have hcz16_0 : w11.cell? ⟨gb234, 0, none⟩ = some (.int .i64 0) := (blk_cell BK234.out 0).trans rfl
        have hcz16_1 : w11.cell? ⟨gb234, 1, none⟩ = some (.int .i64 0) := (blk_cell BK234.out 1).trans rfl
        have hcz16_2 : w11.cell? ⟨gb234, 2, none⟩ = some (.slice none 0 0) := (blk_cell BK234.out 2).trans rfl
        have hcz16_3 : w11.cell? ⟨gb234, 3, none⟩ = some (.slice none 0 0) := (blk_cell BK234.out 3).trans rfl
        have hfz16_0 := blk_frozen BK234.out 0
        have hfz16_1 := blk_frozen BK234.out 1
        have hfz16_2 := blk_frozen BK234.out 2
        have hfz16_3 := blk_frozen BK234.out 3
        go_wp2
        go_meet
        case rel => exact ⟨_, (true), (by first | rfl | (simp; done) | (simp [*]; done)), H', ⟨by have := HK1.out; first | omega | exact Nat.le_refl _⟩, ⟨by (with_reducible repeat (first | refine blk_drewN ?_ _ | refine blk_drew ?_ | refine blk_alloc ?_ _)); refine blk_far ?_ NB232_234.out _; (with_reducible repeat (first | refine blk_drewN ?_ _ | refine blk_drew ?_ | refine blk_alloc ?_ _)); refine blk_far ?_ NB232_234.out _; (with_reducible repeat (first | refine blk_drewN ?_ _ | refine blk_drew ?_ | refine blk_alloc ?_ _)); refine blk_far ?_ NB232_234.out _; (with_reducible repeat (first | refine blk_drewN ?_ _ | refine blk_drew ?_ | refine blk_alloc ?_ _)); refine blk_far ?_ NB232_234.out _; (with_reducible repeat (first | refine blk_drewN ?_ _ | refine blk_drew ?_ | refine blk_alloc ?_ _)); exact BK232.out⟩, ⟨by (with_reducible repeat (first | refine blk_drewN ?_ _ | refine blk_drew ?_ | refine blk_alloc ?_ _)); refine blk_put (cs := #[.int .i64 ((rd_T50 l0_0 x3_1).f0), .int .i64 ((rd_T50 l0_0 x3_1).f1), .slice A233_2 ((rd_T50 l0_0 x3_1).f2).length c233_2, .slice none 0 0]) ?_ 3 _ rfl; (with_reducible repeat (first | refine blk_drewN ?_ _ | refine blk_drew ?_ | refine blk_alloc ?_ _)); refine blk_put (cs := #[.int .i64 ((rd_T50 l0_0 x3_1).f0), .int .i64 ((rd_T50 l0_0 x3_1).f1), .slice none 0 0, .slice none 0 0]) ?_ 2 _ rfl; (with_reducible repeat (first | refine blk_drewN ?_ _ | refine blk_drew ?_ | refine blk_alloc ?_ _)); refine blk_put (cs := #[.int .i64 ((rd_T50 l0_0 x3_1).f0), .int .i64 0, .slice none 0 0, .slice none 0 0]) ?_ 1 _ rfl; (with_reducible repeat (first | refine blk_drewN ?_ _ | refine blk_drew ?_ | refine blk_alloc ?_ _)); refine blk_put (cs := #[.int .i64 0, .int .i64 0, .slice none 0 0, .slice none 0 0]) ?_ 0 _ rfl; (with_reducible repeat (first | refine blk_drewN ?_ _ | refine blk_drew ?_ | refine blk_alloc ?_ _)); exact BK234.out⟩, ⟨by repeat (first | (with_reducible first | exact HB.out | apply below_alloc | apply pw_below_drewN | apply below_drew1 | refine below_set ?_ GE232.out | refine below_set ?_ GE234.out) | exact HB.out)⟩⟩
      rw [if_neg c14] at H
      have c14b0 : decide (70 < (((rd_T50 l0_0 x3_1).f3).length : Int)) = false := decide_eq_false c14
      have c14b1 : decide (70 < ((rd_T50 l0_0 x3_1).f3).length) = false := decide_eq_false (by omega)
      clear c14
      (first | rw [c14b0] | (simp only [i64_w, i32_w]; rw [c14b0]) | skip)
      by_cases c17 : (((rd_T50 l0_0 x3_1).f2).length : Int) > 300
      · rw [if_pos c17] at H
        have c17b0 : decide (300 < (((rd_T50 l0_0 x3_1).f2).length : Int)) = true := decide_eq_true c17
        have c17b1 : decide (300 < ((rd_T50 l0_0 x3_1).f2).length) = true := decide_eq_true (by omega)
        clear c17
        have H' := Aside0.mk H
        clear H
        have hnb18 := NB234_232.out
        have hnc18 := NB232_234.out
        have hcz19_0 : w11.cell? ⟨gb234, 0, none⟩ = some (.int .i64 0) := (blk_cell BK234.out 0).trans rfl
        have hcz19_1 : w11.cell? ⟨gb234, 1, none⟩ = some (.int .i64 0) := (blk_cell BK234.out 1).trans rfl
        have hcz19_2 : w11.cell? ⟨gb234, 2, none⟩ = some (.slice none 0 0) := (blk_cell BK234.out 2).trans rfl
        have hcz19_3 : w11.cell? ⟨gb234, 3, none⟩ = some (.slice none 0 0) := (blk_cell BK234.out 3).trans rfl
        have hfz19_0 := blk_frozen BK234.out 0
        have hfz19_1 := blk_frozen BK234.out 1
        have hfz19_2 := blk_frozen BK234.out 2
        have hfz19_3 := blk_frozen BK234.out 3
        go_wp2
        go_meet
        case rel => exact ⟨_, (true), (by first | rfl | (simp; done) | (simp [*]; done)), H', ⟨by have := HK1.out; first | omega | exact Nat.le_refl _⟩, ⟨by (with_reducible repeat (first | refine blk_drewN ?_ _ | refine blk_drew ?_ | refine blk_alloc ?_ _)); refine blk_far ?_ NB232_234.out _; (with_reducible repeat (first | refine blk_drewN ?_ _ | refine blk_drew ?_ | refine blk_alloc ?_ _)); refine blk_far ?_ NB232_234.out _; (with_reducible repeat (first | refine blk_drewN ?_ _ | refine blk_drew ?_ | refine blk_alloc ?_ _)); refine blk_far ?_ NB232_234.out _; (with_reducible repeat (first | refine blk_drewN ?_ _ | refine blk_drew ?_ | refine blk_alloc ?_ _)); refine blk_far ?_ NB232_234.out _; (with_reducible repeat (first | refine blk_drewN ?_ _ | refine blk_drew ?_ | refine blk_alloc ?_ _)); exact BK232.out⟩, ⟨by (with_reducible repeat (first | refine blk_drewN ?_ _ | refine blk_drew ?_ | refine blk_alloc ?_ _)); refine blk_put (cs := #[.int .i64 ((rd_T50 l0_0 x3_1).f0), .int .i64 ((rd_T50 l0_0 x3_1).f1), .slice A233_2 ((rd_T50 l0_0 x3_1).f2).length c233_2, .slice none 0 0]) ?_ 3 _ rfl; (with_reducible repeat (first | refine blk_drewN ?_ _ | refine blk_drew ?_ | refine blk_alloc ?_ _)); refine blk_put (cs := #[.int .i64 ((rd_T50 l0_0 x3_1).f0), .int .i64 ((rd_T50 l0_0 x3_1).f1), .slice none 0 0, .slice none 0 0]) ?_ 2 _ rfl; (with_reducible repeat (first | refine blk_drewN ?_ _ | refine blk_drew ?_ | refine blk_alloc ?_ _)); refine blk_put (cs := #[.int .i64 ((rd_T50 l0_0 x3_1).f0), .int .i64 0, .slice none 0 0, .slice none 0 0]) ?_ 1 _ rfl; (with_reducible repeat (first | refine blk_drewN ?_ _ | refine blk_drew ?_ | refine blk_alloc ?_ _)); refine blk_put (cs := #[.int .i64 0, .int .i64 0, .slice none 0 0, .slice none 0 0]) ?_ 0 _ rfl; (with_reducible repeat (first | refine blk_drewN ?_ _ | refine blk_drew ?_ | refine blk_alloc ?_ _)); exact BK234.out⟩, ⟨by repeat (first | (with_reducible first | exact HB.out | apply below_alloc | apply pw_below_drewN | apply below_drew1 | refine below_set ?_ GE232.out | refine below_set ?_ GE234.out) | exact HB.out)⟩⟩
      rw [if_neg c17] at H
      have c17b0 : decide (300 < (((rd_T50 l0_0 x3_1).f2).length : Int)) = false := decide_eq_false c17
      have c17b1 : decide (300 < ((rd_T50 l0_0 x3_1).f2).length) = false := decide_eq_false (by omega)
      clear c17
      have H' := Aside0.mk H
      clear H
      have hnb20 := NB234_232.out
      have hnc20 := NB232_234.out
      have hcz21_0 : w11.cell? ⟨gb234, 0, none⟩ = some (.int .i64 0) := (blk_cell BK234.out 0).trans rfl
      have hcz21_1 : w11.cell? ⟨gb234, 1, none⟩ = some (.int .i64 0) := (blk_cell BK234.out 1).trans rfl
      have hcz21_2 : w11.cell? ⟨gb234, 2, none⟩ = some (.slice none 0 0) := (blk_cell BK234.out 2).trans rfl
      have hcz21_3 : w11.cell? ⟨gb234, 3, none⟩ = some (.slice none 0 0) := (blk_cell BK234.out 3).trans rfl
      have hfz21_0 := blk_frozen BK234.out 0
      have hfz21_1 := blk_frozen BK234.out 1
      have hfz21_2 := blk_frozen BK234.out 2
      have hfz21_3 := blk_frozen BK234.out 3
      go_wp2
      go_meet
      case rel => exact ⟨_, (decide (((rd_T50 l0_0 x3_1).f0) > 1000)), (by first | rfl | (simp; done) | (simp [*]; done)), H', ⟨by have := HK1.out; first | omega | exact Nat.le_refl _⟩, ⟨by (with_reducible repeat (first | refine blk_drewN ?_ _ | refine blk_drew ?_ | refine blk_alloc ?_ _)); refine blk_far ?_ NB232_234.out _; (with_reducible repeat (first | refine blk_drewN ?_ _ | refine blk_drew ?_ | refine blk_alloc ?_ _)); refine blk_far ?_ NB232_234.out _; (with_reducible repeat (first | refine blk_drewN ?_ _ | refine blk_drew ?_ | refine blk_alloc ?_ _)); refine blk_far ?_ NB232_234.out _; (with_reducible repeat (first | refine blk_drewN ?_ _ | refine blk_drew ?_ | refine blk_alloc ?_ _)); refine blk_far ?_ NB232_234.out _; (with_reducible repeat (first | refine blk_drewN ?_ _ | refine blk_drew ?_ | refine blk_alloc ?_ _)); exact BK232.out⟩, ⟨by (with_reducible repeat (first | refine blk_drewN ?_ _ | refine blk_drew ?_ | refine blk_alloc ?_ _)); refine blk_put (cs := #[.int .i64 ((rd_T50 l0_0 x3_1).f0), .int .i64 ((rd_T50 l0_0 x3_1).f1), .slice A233_2 ((rd_T50 l0_0 x3_1).f2).length c233_2, .slice none 0 0]) ?_ 3 _ rfl; (with_reducible repeat (first | refine blk_drewN ?_ _ | refine blk_drew ?_ | refine blk_alloc ?_ _)); refine blk_put (cs := #[.int .i64 ((rd_T50 l0_0 x3_1).f0), .int .i64 ((rd_T50 l0_0 x3_1).f1), .slice none 0 0, .slice none 0 0]) ?_ 2 _ rfl; (with_reducible repeat (first | refine blk_drewN ?_ _ | refine blk_drew ?_ | refine blk_alloc ?_ _)); refine blk_put (cs := #[.int .i64 ((rd_T50 l0_0 x3_1).f0), .int .i64 0, .slice none 0 0, .slice none 0 0]) ?_ 1 _ rfl; (with_reducible repeat (first | refine blk_drewN ?_ _ | refine blk_drew ?_ | refine blk_alloc ?_ _)); refine blk_put (cs := #[.int .i64 0, .int .i64 0, .slice none 0 0, .slice none 0 0]) ?_ 0 _ rfl; (with_reducible repeat (first | refine blk_drewN ?_ _ | refine blk_drew ?_ | refine blk_alloc ?_ _)); exact BK234.out⟩, ⟨by repeat (first | (with_reducible first | exact HB.out | apply below_alloc | apply pw_below_drewN | apply below_drew1 | refine below_set ?_ GE232.out | refine below_set ?_ GE234.out) | exact HB.out)⟩⟩
    clear HC9
    try clear c1
    try clear c2
    try clear c2b0
    try clear c2b1
    try clear p2
    try clear q2
    try clear hx2
    try clear c7
    try clear c7b0
    try clear c8
    try clear c8b0
    try clear c10
    try clear c12
    try clear c14
    try clear c14b0
    try clear c14b1
    try clear c15
    try clear c17
    try clear c17b0
    try clear c17b1
    try clear c18
    try clear c20
    try clear hcz10_0
    try clear hcz13_0
    try clear hcz13_1
    try clear hcz13_2
    try clear hcz13_3
    try clear hcz16_0
    try clear hcz16_1
    try clear hcz16_2
    try clear hcz16_3
    try clear hcz19_0
    try clear hcz19_1
    try clear hcz19_2
    try clear hcz19_3
    try clear hcz21_0
    try clear hcz21_1
    try clear hcz21_2
    try clear hcz21_3
    try clear hcz4_0
    try clear hcz6_0
    try clear hfz10_0
    try clear hfz13_0
    try clear hfz13_1
    try clear hfz13_2
    try clear hfz13_3
    try clear hfz16_0
    try clear hfz16_1
    try clear hfz16_2
    try clear hfz16_3
    try clear hfz19_0
    try clear hfz19_1
    try clear hfz19_2
    try clear hfz19_3
    try clear hfz21_0
    try clear hfz21_1
    try clear hfz21_2
    try clear hfz21_3
    try clear hfz4_0
    try clear hfz6_0
    try clear hx233_0
    try clear hx233_1
    try clear hx233_2
    try clear hx233_3
    try clear p2
    try clear p233
    try clear q233
    obtain ⟨kq, x39_8, rfl, HA, HJ8, BK232, BK234, HB⟩ := hcut
    rcases kq with _ | kj8
    · exact absurd HA.out (by simp [fettleref02_Small.j1])
    have H := HA.out
    clear HA
    simp only [fettleref02_Small.j1] at H
    by_cases c22 : x39_8 = true
    · subst c22
      have H1 : (some false) = some r := by rw [if_pos rfl] at H; exact H
      clear H
      have H := H1
      clear H1
      obtain rfl := Option.some.inj H
      go_wp2
      go_ret
      exact ⟨by first | rfl | (simp [errW_none, errW_some] <;> rfl) | (simp [*, errW_none, errW_some] <;> rfl), by repeat (first | (with_reducible first | exact HB.out | apply below_alloc | apply pw_below_drewN | apply below_drew1 | refine below_set ?_ GE232.out | refine below_set ?_ GE234.out) | exact HB.out)⟩
    replace c22 := Bool.eq_false_iff.mpr c22
    subst c22
    have H1 : (fettleref02_Small.l1 kj8 x3_1 0 l0_0 ((rd_T50 l0_0 x3_1).f0) ((rd_T50 l0_0 x3_1).f1) ((rd_T50 l0_0 x3_1).f2) ((rd_T50 l0_0 x3_1).f3)) = some r := by rw [if_neg (show ¬ (false = true) by decide)] at H; exact H
    clear H
    have H := H1
    clear H1
    have H' := Aside0.mk H
    clear H
    go_wp2
    go_loopg [5] kj8 (fun kq v5 w' => ∃ (x5_3 : Int), v5 = .int .i64 x5_3 ∧ Aside0 (fettleref02_Small.l1 kq x3_1 x5_3 l0_0 ((rd_T50 l0_0 x3_1).f0) ((rd_T50 l0_0 x3_1).f1) ((rd_T50 l0_0 x3_1).f2) ((rd_T50 l0_0 x3_1).f3) = some r) ∧ Aside0 (kq ≤ kj8) ∧ Aside0 (w'.heap[gb232]? = some (.cells #[(.slice (some ad233) l0_0.length c0_0)] 24 (0, 0))) ∧ Aside0 (w'.heap[gb234]? = some (.cells #[.int .i64 ((rd_T50 l0_0 x3_1).f0), .int .i64 ((rd_T50 l0_0 x3_1).f1), (.slice A233_2 ((rd_T50 l0_0 x3_1).f2).length c233_2), (.slice A233_3 ((rd_T50 l0_0 x3_1).f3).length c233_3)] 50 (0, 0))) ∧ Aside0 (Below w.heap.size w w'))
    case atStart => exact ⟨(0), (by first | rfl | (simp; done) | (simp [*]; done)), H', ⟨Nat.le_refl _⟩, ⟨by (with_reducible repeat (first | refine blk_drewN ?_ _ | refine blk_drew ?_ | refine blk_alloc ?_ _)); exact BK232.out⟩, ⟨by (with_reducible repeat (first | refine blk_drewN ?_ _ | refine blk_drew ?_ | refine blk_alloc ?_ _)); exact BK234.out⟩, ⟨by repeat (first | (with_reducible first | exact HB.out | apply below_alloc | apply pw_below_drewN | apply below_drew1 | refine below_set ?_ GE232.out | refine below_set ?_ GE234.out) | exact HB.out)⟩⟩
    clear H'
    try clear c1
    try clear c2
    try clear c2b0
    try clear c2b1
    try clear p2
    try clear q2
    try clear hx2
    try clear c7
    try clear c7b0
    try clear c8
    try clear c8b0
    try clear c10
    try clear c12
    try clear c14
    try clear c14b0
    try clear c14b1
    try clear c15
    try clear c17
    try clear c17b0
    try clear c17b1
    try clear c18
    try clear c20
    try clear c22
    try clear hcz10_0
    try clear hcz13_0
    try clear hcz13_1
    try clear hcz13_2
    try clear hcz13_3
    try clear hcz16_0
    try clear hcz16_1
    try clear hcz16_2
    try clear hcz16_3
    try clear hcz19_0
    try clear hcz19_1
    try clear hcz19_2
    try clear hcz19_3
    try clear hcz21_0
    try clear hcz21_1
    try clear hcz21_2
    try clear hcz21_3
    try clear hcz4_0
    try clear hcz6_0
    try clear hfz10_0
    try clear hfz13_0
    try clear hfz13_1
    try clear hfz13_2
    try clear hfz13_3
    try clear hfz16_0
    try clear hfz16_1
    try clear hfz16_2
    try clear hfz16_3
    try clear hfz19_0
    try clear hfz19_1
    try clear hfz19_2
    try clear hfz19_3
    try clear hfz21_0
    try clear hfz21_1
    try clear hfz21_2
    try clear hfz21_3
    try clear hfz4_0
    try clear hfz6_0
    try clear hx233_0
    try clear hx233_1
    try clear hx233_2
    try clear hx233_3
    try clear p2
    try clear p233
    try clear q2
    try clear q233
    obtain ⟨x5_3, rfl, HA, HK3, BK232, BK234, HB⟩ := hrel
    rcases gk with _ | k3
    · exact absurd HA.out (by simp [fettleref02_Small.l1])
    have H := HA.out
    clear HA
    simp only [fettleref02_Small.l1] at H
    by_cases c23 : x5_3 < (((rd_T50 l0_0 x3_1).f3).length : Int)
    · rw [if_pos c23] at H
      have c23b0 : decide (x5_3 < (((rd_T50 l0_0 x3_1).f3).length : Int)) = true := decide_eq_true c23
      clear c23
      by_cases c24 : 0 ≤ x5_3
      rotate_left
      · rw [if_neg c24] at H
        exact absurd H (by simp)
      rw [if_pos c24] at H
      have c24b0 : decide (0 ≤ x5_3) = true := decide_eq_true c24
      clear c24
      have HC25 := Aside0.mk H
      clear H
      have hnb26 := NB234_232.out
      have hnc26 := NB232_234.out
      have hcz27_0 : wr.cell? ⟨gb234, 0, none⟩ = some (.int .i64 ((rd_T50 l0_0 x3_1).f0)) := (blk_cell BK234.out 0).trans rfl
      have hcz27_1 : wr.cell? ⟨gb234, 1, none⟩ = some (.int .i64 ((rd_T50 l0_0 x3_1).f1)) := (blk_cell BK234.out 1).trans rfl
      have hcz27_2 : wr.cell? ⟨gb234, 2, none⟩ = some (.slice A233_2 ((rd_T50 l0_0 x3_1).f2).length c233_2) := (blk_cell BK234.out 2).trans rfl
      have hcz27_3 : wr.cell? ⟨gb234, 3, none⟩ = some (.slice A233_3 ((rd_T50 l0_0 x3_1).f3).length c233_3) := (blk_cell BK234.out 3).trans rfl
      have hfz27_0 := blk_frozen BK234.out 0
      have hfz27_1 := blk_frozen BK234.out 1
      have hfz27_2 := blk_frozen BK234.out 2
      have hfz27_3 := blk_frozen BK234.out 3
      have p235 : 0 ≤ (x5_3 : Int) := of_decide_eq_true (by with_reducible assumption)
      have q235 : x5_3 < (((rd_T50 l0_0 x3_1).f3).length : Int) := of_decide_eq_true (by with_reducible assumption)
      obtain ⟨ad235, A235_0, c235_0, A235_1, c235_1, A235_4, c235_4, e235, hx235_0, hx235_1, hx235_2, hx235_3, hx235_4, hl235_0, hi235_0, hl235_1, hi235_1, hl235_4, hi235_4⟩ := at_T56 HR233_3.out x5_3 p235 q235
      cases e235
      replace hx235_0 := (HB.out.cell (World.block_lt_of_cell? w _ hx235_0)).trans hx235_0
      replace hx235_1 := (HB.out.cell (World.block_lt_of_cell? w _ hx235_1)).trans hx235_1
      replace hx235_2 := (HB.out.cell (World.block_lt_of_cell? w _ hx235_2)).trans hx235_2
      replace hx235_3 := (HB.out.cell (World.block_lt_of_cell? w _ hx235_3)).trans hx235_3
      replace hx235_4 := (HB.out.cell (World.block_lt_of_cell? w _ hx235_4)).trans hx235_4
      have HR235_0 := Aside0.mk hi235_0
      have HC235_0 := Aside0.mk hl235_0
      clear hi235_0 hl235_0
      have HR235_1 := Aside0.mk hi235_1
      have HC235_1 := Aside0.mk hl235_1
      clear hi235_1 hl235_1
      have HR235_4 := Aside0.mk hi235_4
      have HC235_4 := Aside0.mk hl235_4
      clear hi235_4 hl235_4
      replace p235 := eq_true p235
      replace q235 := eq_true q235
      go_upto_region 13 with (first | ((with_reducible refine gate_dst (N := 6) rfl ?_); (try (refine gate_guard (by rfl) ?_; dsimp only)); refine box_event ?hg (N := 6) ?hd (cs := #[.slice none 0 0, .slice none 0 0, .int .i64 0, .int .i64 0, .slice none 0 0]) (t := 56) ?hr ?_; (case hd => rfl); (case hg => rfl); (case hr => first | (go_simp; done) | (go_simp; rfl)); intro gb236 hg w28 hbox hb; have n0_ := Aside0.mk (blk_below (g := gb232) (o := .cells #[.slice (some ad233) l0_0.length c0_0] 24 (0, 0)) (by (with_reducible repeat (first | refine blk_drewN ?_ _ | refine blk_drew ?_ | refine blk_alloc ?_ _)); exact BK232.out) hb); have n1_ := Aside0.mk (blk_below (g := gb234) (o := .cells #[.int .i64 ((rd_T50 l0_0 x3_1).f0), .int .i64 ((rd_T50 l0_0 x3_1).f1), .slice A233_2 ((rd_T50 l0_0 x3_1).f2).length c233_2, .slice (some ad235) ((rd_T50 l0_0 x3_1).f3).length c233_3] 50 (0, 0)) (by (with_reducible repeat (first | refine blk_drewN ?_ _ | refine blk_drew ?_ | refine blk_alloc ?_ _)); exact BK234.out) hb); have n2_ := Aside0.mk (below_step (by repeat with_reducible first | exact HB.out | apply below_alloc | apply pw_below_drewN | apply below_drew1 | refine below_set ?_ GE232.out | refine below_set ?_ GE234.out) hb); have n3_ := Aside0.mk (hbox); have n4_ := Aside0.mk ((by rw [hg]; exact (below_size (by repeat with_reducible first | exact HB.out | apply below_alloc | apply pw_below_drewN | apply below_drew1 | refine below_set ?_ GE232.out | refine below_set ?_ GE234.out)) : w.heap.size ≤ gb236)); have n5_ := Aside0.mk ((by rw [hg]; exact (below_size (by repeat with_reducible first | exact HB.out | apply below_alloc | apply pw_below_drewN | apply below_drew1 | refine below_set ?_ GE232.out | refine below_set ?_ GE234.out)) : w.heap.size ≤ gb236)); have n6_ := Aside0.mk ((by rw [hg]; exact Nat.ne_of_lt (blk_lt (g := gb232) (o := .cells #[.slice (some ad233) l0_0.length c0_0] 24 (0, 0)) (by (with_reducible repeat (first | refine blk_drewN ?_ _ | refine blk_drew ?_ | refine blk_alloc ?_ _)); exact BK232.out)) : gb232 ≠ gb236)); have n7_ := Aside0.mk ((by rw [hg]; exact Nat.ne_of_gt (blk_lt (g := gb232) (o := .cells #[.slice (some ad233) l0_0.length c0_0] 24 (0, 0)) (by (with_reducible repeat (first | refine blk_drewN ?_ _ | refine blk_drew ?_ | refine blk_alloc ?_ _)); exact BK232.out)) : gb236 ≠ gb232)); have n8_ := Aside0.mk ((by rw [hg]; exact Nat.ne_of_lt (blk_lt (g := gb234) (o := .cells #[.int .i64 ((rd_T50 l0_0 x3_1).f0), .int .i64 ((rd_T50 l0_0 x3_1).f1), .slice A233_2 ((rd_T50 l0_0 x3_1).f2).length c233_2, .slice (some ad235) ((rd_T50 l0_0 x3_1).f3).length c233_3] 50 (0, 0)) (by (with_reducible repeat (first | refine blk_drewN ?_ _ | refine blk_drew ?_ | refine blk_alloc ?_ _)); exact BK234.out)) : gb234 ≠ gb236)); have n9_ := Aside0.mk ((by rw [hg]; exact Nat.ne_of_gt (blk_lt (g := gb234) (o := .cells #[.int .i64 ((rd_T50 l0_0 x3_1).f0), .int .i64 ((rd_T50 l0_0 x3_1).f1), .slice A233_2 ((rd_T50 l0_0 x3_1).f2).length c233_2, .slice (some ad235) ((rd_T50 l0_0 x3_1).f3).length c233_3] 50 (0, 0)) (by (with_reducible repeat (first | refine blk_drewN ?_ _ | refine blk_drew ?_ | refine blk_alloc ?_ _)); exact BK234.out)) : gb236 ≠ gb234)); clear BK232; clear BK234; clear HB; have BK232 := n0_; have BK234 := n1_; have HB := n2_; have BK236 := n3_; have GW236 := n4_; have GE236 := n5_; have NB232_236 := n6_; have NB236_232 := n7_; have NB234_236 := n8_; have NB236_234 := n9_; clear n0_ n1_ n2_ n3_ n4_ n5_ n6_ n7_ n8_ n9_; clear hb hbox hg; have hnb29 := NB236_232.out; have hnc29 := NB232_236.out; have hnb30 := NB236_234.out; have hnc30 := NB234_236.out; have hcz31_0 : w28.cell? ⟨gb236, 0, none⟩ = some (.slice none 0 0) := (blk_cell BK236.out 0).trans rfl; have hcz31_1 : w28.cell? ⟨gb236, 1, none⟩ = some (.slice none 0 0) := (blk_cell BK236.out 1).trans rfl; have hcz31_2 : w28.cell? ⟨gb236, 2, none⟩ = some (.int .i64 0) := (blk_cell BK236.out 2).trans rfl; have hcz31_3 : w28.cell? ⟨gb236, 3, none⟩ = some (.int .i64 0) := (blk_cell BK236.out 3).trans rfl; have hcz31_4 : w28.cell? ⟨gb236, 4, none⟩ = some (.slice none 0 0) := (blk_cell BK236.out 4).trans rfl; have hfz31_0 := blk_frozen BK236.out 0; have hfz31_1 := blk_frozen BK236.out 1; have hfz31_2 := blk_frozen BK236.out 2; have hfz31_3 := blk_frozen BK236.out 3; have hfz31_4 := blk_frozen BK236.out 4))
      (try simp only [Act.put, List.setIfInBounds_toArray, List.set_cons_zero, List.set_cons_succ])
      go_cut [68] (fun v68 wc => ∃ (kq : Nat) (x68_24 : Bool), v68 = .bool x68_24 ∧ Aside0 (fettleref02_Small.j3 kq x3_1 x5_3 x68_24 l0_0 ((rd_T50 l0_0 x3_1).f0) ((rd_T50 l0_0 x3_1).f1) ((rd_T50 l0_0 x3_1).f2) ((rd_T50 l0_0 x3_1).f3) ((rd_T56 ((rd_T50 l0_0 x3_1).f3) x5_3).f0) ((rd_T56 ((rd_T50 l0_0 x3_1).f3) x5_3).f1) ((rd_T56 ((rd_T50 l0_0 x3_1).f3) x5_3).f2.f0) ((rd_T56 ((rd_T50 l0_0 x3_1).f3) x5_3).f2.f1) ((rd_T56 ((rd_T50 l0_0 x3_1).f3) x5_3).f2.f2) = some r) ∧ Aside0 (kq ≤ k3) ∧ Aside0 (wc.heap[gb232]? = some (.cells #[(.slice (some ad233) l0_0.length c0_0)] 24 (0, 0))) ∧ Aside0 (wc.heap[gb234]? = some (.cells #[.int .i64 ((rd_T50 l0_0 x3_1).f0), .int .i64 ((rd_T50 l0_0 x3_1).f1), (.slice A233_2 ((rd_T50 l0_0 x3_1).f2).length c233_2), (.slice (some ad235) ((rd_T50 l0_0 x3_1).f3).length c233_3)] 50 (0, 0))) ∧ Aside0 (wc.heap[gb236]? = some (.cells #[(.slice A235_0 ((rd_T56 ((rd_T50 l0_0 x3_1).f3) x5_3).f0).length c235_0), (.slice A235_1 ((rd_T56 ((rd_T50 l0_0 x3_1).f3) x5_3).f1).length c235_1), .int .i64 ((rd_T56 ((rd_T50 l0_0 x3_1).f3) x5_3).f2.f0), .int .i64 ((rd_T56 ((rd_T50 l0_0 x3_1).f3) x5_3).f2.f1), (.slice A235_4 ((rd_T56 ((rd_T50 l0_0 x3_1).f3) x5_3).f2.f2).length c235_4)] 56 (0, 0))) ∧ Aside0 (Below w.heap.size w wc))
      case first =>
        have H := HC25.out
        clear HC25
        by_cases c32 : (((rd_T56 ((rd_T50 l0_0 x3_1).f3) x5_3).f1).length : Int) > 300
        · rw [if_pos c32] at H
          have c32b0 : decide (300 < (((rd_T56 ((rd_T50 l0_0 x3_1).f3) x5_3).f1).length : Int)) = true := decide_eq_true c32
          have c32b1 : decide (300 < ((rd_T56 ((rd_T50 l0_0 x3_1).f3) x5_3).f1).length) = true := decide_eq_true (by omega)
          clear c32
          (first | rw [c32b0] | (simp only [i64_w, i32_w]; rw [c32b0]) | skip)
          have H' := Aside0.mk H
          clear H
          have hnb33 := NB236_232.out
          have hnc33 := NB232_236.out
          have hnb34 := NB236_234.out
          have hnc34 := NB234_236.out
          have hcz35_0 : w28.cell? ⟨gb236, 0, none⟩ = some (.slice none 0 0) := (blk_cell BK236.out 0).trans rfl
          have hcz35_1 : w28.cell? ⟨gb236, 1, none⟩ = some (.slice none 0 0) := (blk_cell BK236.out 1).trans rfl
          have hcz35_2 : w28.cell? ⟨gb236, 2, none⟩ = some (.int .i64 0) := (blk_cell BK236.out 2).trans rfl
          have hcz35_3 : w28.cell? ⟨gb236, 3, none⟩ = some (.int .i64 0) := (blk_cell BK236.out 3).trans rfl
          have hcz35_4 : w28.cell? ⟨gb236, 4, none⟩ = some (.slice none 0 0) := (blk_cell BK236.out 4).trans rfl
          have hfz35_0 := blk_frozen BK236.out 0
          have hfz35_1 := blk_frozen BK236.out 1
          have hfz35_2 := blk_frozen BK236.out 2
          have hfz35_3 := blk_frozen BK236.out 3
          have hfz35_4 := blk_frozen BK236.out 4
          go_wp2
          go_meet
          case rel => exact ⟨_, (true), (by first | rfl | (simp; done) | (simp [*]; done)), H', ⟨by have := HK1.out; have := HJ8.out; have := HK3.out; first | omega | exact Nat.le_refl _⟩, ⟨by (with_reducible repeat (first | refine blk_drewN ?_ _ | refine blk_drew ?_ | refine blk_alloc ?_ _)); refine blk_far ?_ NB232_236.out _; (with_reducible repeat (first | refine blk_drewN ?_ _ | refine blk_drew ?_ | refine blk_alloc ?_ _)); refine blk_far ?_ NB232_236.out _; (with_reducible repeat (first | refine blk_drewN ?_ _ | refine blk_drew ?_ | refine blk_alloc ?_ _)); refine blk_far ?_ NB232_236.out _; (with_reducible repeat (first | refine blk_drewN ?_ _ | refine blk_drew ?_ | refine blk_alloc ?_ _)); refine blk_far ?_ NB232_236.out _; (with_reducible repeat (first | refine blk_drewN ?_ _ | refine blk_drew ?_ | refine blk_alloc ?_ _)); refine blk_far ?_ NB232_236.out _; (with_reducible repeat (first | refine blk_drewN ?_ _ | refine blk_drew ?_ | refine blk_alloc ?_ _)); exact BK232.out⟩, ⟨by (with_reducible repeat (first | refine blk_drewN ?_ _ | refine blk_drew ?_ | refine blk_alloc ?_ _)); refine blk_far ?_ NB234_236.out _; (with_reducible repeat (first | refine blk_drewN ?_ _ | refine blk_drew ?_ | refine blk_alloc ?_ _)); refine blk_far ?_ NB234_236.out _; (with_reducible repeat (first | refine blk_drewN ?_ _ | refine blk_drew ?_ | refine blk_alloc ?_ _)); refine blk_far ?_ NB234_236.out _; (with_reducible repeat (first | refine blk_drewN ?_ _ | refine blk_drew ?_ | refine blk_alloc ?_ _)); refine blk_far ?_ NB234_236.out _; (with_reducible repeat (first | refine blk_drewN ?_ _ | refine blk_drew ?_ | refine blk_alloc ?_ _)); refine blk_far ?_ NB234_236.out _; (with_reducible repeat (first | refine blk_drewN ?_ _ | refine blk_drew ?_ | refine blk_alloc ?_ _)); exact BK234.out⟩, ⟨by (with_reducible repeat (first | refine blk_drewN ?_ _ | refine blk_drew ?_ | refine blk_alloc ?_ _)); refine blk_put (cs := #[.slice A235_0 ((rd_T56 ((rd_T50 l0_0 x3_1).f3) x5_3).f0).length c235_0, .slice A235_1 ((rd_T56 ((rd_T50 l0_0 x3_1).f3) x5_3).f1).length c235_1, .int .i64 ((rd_T56 ((rd_T50 l0_0 x3_1).f3) x5_3).f2.f0), .int .i64 ((rd_T56 ((rd_T50 l0_0 x3_1).f3) x5_3).f2.f1), .slice none 0 0]) ?_ 4 _ rfl; (with_reducible repeat (first | refine blk_drewN ?_ _ | refine blk_drew ?_ | refine blk_alloc ?_ _)); refine blk_put (cs := #[.slice A235_0 ((rd_T56 ((rd_T50 l0_0 x3_1).f3) x5_3).f0).length c235_0, .slice A235_1 ((rd_T56 ((rd_T50 l0_0 x3_1).f3) x5_3).f1).length c235_1, .int .i64 ((rd_T56 ((rd_T50 l0_0 x3_1).f3) x5_3).f2.f0), .int .i64 0, .slice none 0 0]) ?_ 3 _ rfl; (with_reducible repeat (first | refine blk_drewN ?_ _ | refine blk_drew ?_ | refine blk_alloc ?_ _)); refine blk_put (cs := #[.slice A235_0 ((rd_T56 ((rd_T50 l0_0 x3_1).f3) x5_3).f0).length c235_0, .slice A235_1 ((rd_T56 ((rd_T50 l0_0 x3_1).f3) x5_3).f1).length c235_1, .int .i64 0, .int .i64 0, .slice none 0 0]) ?_ 2 _ rfl; (with_reducible repeat (first | refine blk_drewN ?_ _ | refine blk_drew ?_ | refine blk_alloc ?_ _)); refine blk_put (cs := #[.slice A235_0 ((rd_T56 ((rd_T50 l0_0 x3_1).f3) x5_3).f0).length c235_0, .slice none 0 0, .int .i64 0, .int .i64 0, .slice none 0 0]) ?_ 1 _ rfl; (with_reducible repeat (first | refine blk_drewN ?_ _ | refine blk_drew ?_ | refine blk_alloc ?_ _)); refine blk_put (cs := #[.slice none 0 0, .slice none 0 0, .int .i64 0, .int .i64 0, .slice none 0 0]) ?_ 0 _ rfl; (with_reducible repeat (first | refine blk_drewN ?_ _ | refine blk_drew ?_ | refine blk_alloc ?_ _)); exact BK236.out⟩, ⟨by repeat (first | (with_reducible first | exact HB.out | apply below_alloc | apply pw_below_drewN | apply below_drew1 | refine below_set ?_ GE232.out | refine below_set ?_ GE234.out | refine below_set ?_ GE236.out) | exact HB.out)⟩⟩
        rw [if_neg c32] at H
        have c32b0 : decide (300 < (((rd_T56 ((rd_T50 l0_0 x3_1).f3) x5_3).f1).length : Int)) = false := decide_eq_false c32
        have c32b1 : decide (300 < ((rd_T56 ((rd_T50 l0_0 x3_1).f3) x5_3).f1).length) = false := decide_eq_false (by omega)
        clear c32
        (first | rw [c32b0] | (simp only [i64_w, i32_w]; rw [c32b0]) | skip)
        by_cases c36 : (((rd_T56 ((rd_T50 l0_0 x3_1).f3) x5_3).f0).length : Int) > 300
        · rw [if_pos c36] at H
          have c36b0 : decide (300 < (((rd_T56 ((rd_T50 l0_0 x3_1).f3) x5_3).f0).length : Int)) = true := decide_eq_true c36
          have c36b1 : decide (300 < ((rd_T56 ((rd_T50 l0_0 x3_1).f3) x5_3).f0).length) = true := decide_eq_true (by omega)
          clear c36
          have H' := Aside0.mk H
          clear H
          have hnb37 := NB236_232.out
          have hnc37 := NB232_236.out
          have hnb38 := NB236_234.out
          have hnc38 := NB234_236.out
          have hcz39_0 : w28.cell? ⟨gb236, 0, none⟩ = some (.slice none 0 0) := (blk_cell BK236.out 0).trans rfl
          have hcz39_1 : w28.cell? ⟨gb236, 1, none⟩ = some (.slice none 0 0) := (blk_cell BK236.out 1).trans rfl
          have hcz39_2 : w28.cell? ⟨gb236, 2, none⟩ = some (.int .i64 0) := (blk_cell BK236.out 2).trans rfl
          have hcz39_3 : w28.cell? ⟨gb236, 3, none⟩ = some (.int .i64 0) := (blk_cell BK236.out 3).trans rfl
          have hcz39_4 : w28.cell? ⟨gb236, 4, none⟩ = some (.slice none 0 0) := (blk_cell BK236.out 4).trans rfl
          have hfz39_0 := blk_frozen BK236.out 0
          have hfz39_1 := blk_frozen BK236.out 1
          have hfz39_2 := blk_frozen BK236.out 2
          have hfz39_3 := blk_frozen BK236.out 3
          have hfz39_4 := blk_frozen BK236.out 4
          go_wp2
          go_meet
          case rel => exact ⟨_, (true), (by first | rfl | (simp; done) | (simp [*]; done)), H', ⟨by have := HK1.out; have := HJ8.out; have := HK3.out; first | omega | exact Nat.le_refl _⟩, ⟨by (with_reducible repeat (first | refine blk_drewN ?_ _ | refine blk_drew ?_ | refine blk_alloc ?_ _)); refine blk_far ?_ NB232_236.out _; (with_reducible repeat (first | refine blk_drewN ?_ _ | refine blk_drew ?_ | refine blk_alloc ?_ _)); refine blk_far ?_ NB232_236.out _; (with_reducible repeat (first | refine blk_drewN ?_ _ | refine blk_drew ?_ | refine blk_alloc ?_ _)); refine blk_far ?_ NB232_236.out _; (with_reducible repeat (first | refine blk_drewN ?_ _ | refine blk_drew ?_ | refine blk_alloc ?_ _)); refine blk_far ?_ NB232_236.out _; (with_reducible repeat (first | refine blk_drewN ?_ _ | refine blk_drew ?_ | refine blk_alloc ?_ _)); refine blk_far ?_ NB232_236.out _; (with_reducible repeat (first | refine blk_drewN ?_ _ | refine blk_drew ?_ | refine blk_alloc ?_ _)); exact BK232.out⟩, ⟨by (with_reducible repeat (first | refine blk_drewN ?_ _ | refine blk_drew ?_ | refine blk_alloc ?_ _)); refine blk_far ?_ NB234_236.out _; (with_reducible repeat (first | refine blk_drewN ?_ _ | refine blk_drew ?_ | refine blk_alloc ?_ _)); refine blk_far ?_ NB234_236.out _; (with_reducible repeat (first | refine blk_drewN ?_ _ | refine blk_drew ?_ | refine blk_alloc ?_ _)); refine blk_far ?_ NB234_236.out _; (with_reducible repeat (first | refine blk_drewN ?_ _ | refine blk_drew ?_ | refine blk_alloc ?_ _)); refine blk_far ?_ NB234_236.out _; (with_reducible repeat (first | refine blk_drewN ?_ _ | refine blk_drew ?_ | refine blk_alloc ?_ _)); refine blk_far ?_ NB234_236.out _; (with_reducible repeat (first | refine blk_drewN ?_ _ | refine blk_drew ?_ | refine blk_alloc ?_ _)); exact BK234.out⟩, ⟨by (with_reducible repeat (first | refine blk_drewN ?_ _ | refine blk_drew ?_ | refine blk_alloc ?_ _)); refine blk_put (cs := #[.slice A235_0 ((rd_T56 ((rd_T50 l0_0 x3_1).f3) x5_3).f0).length c235_0, .slice A235_1 ((rd_T56 ((rd_T50 l0_0 x3_1).f3) x5_3).f1).length c235_1, .int .i64 ((rd_T56 ((rd_T50 l0_0 x3_1).f3) x5_3).f2.f0), .int .i64 ((rd_T56 ((rd_T50 l0_0 x3_1).f3) x5_3).f2.f1), .slice none 0 0]) ?_ 4 _ rfl; (with_reducible repeat (first | refine blk_drewN ?_ _ | refine blk_drew ?_ | refine blk_alloc ?_ _)); refine blk_put (cs := #[.slice A235_0 ((rd_T56 ((rd_T50 l0_0 x3_1).f3) x5_3).f0).length c235_0, .slice A235_1 ((rd_T56 ((rd_T50 l0_0 x3_1).f3) x5_3).f1).length c235_1, .int .i64 ((rd_T56 ((rd_T50 l0_0 x3_1).f3) x5_3).f2.f0), .int .i64 0, .slice none 0 0]) ?_ 3 _ rfl; (with_reducible repeat (first | refine blk_drewN ?_ _ | refine blk_drew ?_ | refine blk_alloc ?_ _)); refine blk_put (cs := #[.slice A235_0 ((rd_T56 ((rd_T50 l0_0 x3_1).f3) x5_3).f0).length c235_0, .slice A235_1 ((rd_T56 ((rd_T50 l0_0 x3_1).f3) x5_3).f1).length c235_1, .int .i64 0, .int .i64 0, .slice none 0 0]) ?_ 2 _ rfl; (with_reducible repeat (first | refine blk_drewN ?_ _ | refine blk_drew ?_ | refine blk_alloc ?_ _)); refine blk_put (cs := #[.slice A235_0 ((rd_T56 ((rd_T50 l0_0 x3_1).f3) x5_3).f0).length c235_0, .slice none 0 0, .int .i64 0, .int .i64 0, .slice none 0 0]) ?_ 1 _ rfl; (with_reducible repeat (first | refine blk_drewN ?_ _ | refine blk_drew ?_ | refine blk_alloc ?_ _)); refine blk_put (cs := #[.slice none 0 0, .slice none 0 0, .int .i64 0, .int .i64 0, .slice none 0 0]) ?_ 0 _ rfl; (with_reducible repeat (first | refine blk_drewN ?_ _ | refine blk_drew ?_ | refine blk_alloc ?_ _)); exact BK236.out⟩, ⟨by repeat (first | (with_reducible first | exact HB.out | apply below_alloc | apply pw_below_drewN | apply below_drew1 | refine below_set ?_ GE232.out | refine below_set ?_ GE234.out | refine below_set ?_ GE236.out) | exact HB.out)⟩⟩
        rw [if_neg c36] at H
        have c36b0 : decide (300 < (((rd_T56 ((rd_T50 l0_0 x3_1).f3) x5_3).f0).length : Int)) = false := decide_eq_false c36
        have c36b1 : decide (300 < ((rd_T56 ((rd_T50 l0_0 x3_1).f3) x5_3).f0).length) = false := decide_eq_false (by omega)
        clear c36
        have H' := Aside0.mk H
        clear H
        have hnb40 := NB236_232.out
        have hnc40 := NB232_236.out
        have hnb41 := NB236_234.out
        have hnc41 := NB234_236.out
        have hcz42_0 : w28.cell? ⟨gb236, 0, none⟩ = some (.slice none 0 0) := (blk_cell BK236.out 0).trans rfl
        have hcz42_1 : w28.cell? ⟨gb236, 1, none⟩ = some (.slice none 0 0) := (blk_cell BK236.out 1).trans rfl
        have hcz42_2 : w28.cell? ⟨gb236, 2, none⟩ = some (.int .i64 0) := (blk_cell BK236.out 2).trans rfl
        have hcz42_3 : w28.cell? ⟨gb236, 3, none⟩ = some (.int .i64 0) := (blk_cell BK236.out 3).trans rfl
        have hcz42_4 : w28.cell? ⟨gb236, 4, none⟩ = some (.slice none 0 0) := (blk_cell BK236.out 4).trans rfl
        have hfz42_0 := blk_frozen BK236.out 0
        have hfz42_1 := blk_frozen BK236.out 1
        have hfz42_2 := blk_frozen BK236.out 2
        have hfz42_3 := blk_frozen BK236.out 3
        have hfz42_4 := blk_frozen BK236.out 4
        go_wp2
        go_meet
        case rel => exact ⟨_, (decide ((((rd_T56 ((rd_T50 l0_0 x3_1).f3) x5_3).f2.f2).length : Int) > 70)), (by first | rfl | (simp; done) | (simp [*]; done)), H', ⟨by have := HK1.out; have := HJ8.out; have := HK3.out; first | omega | exact Nat.le_refl _⟩, ⟨by (with_reducible repeat (first | refine blk_drewN ?_ _ | refine blk_drew ?_ | refine blk_alloc ?_ _)); refine blk_far ?_ NB232_236.out _; (with_reducible repeat (first | refine blk_drewN ?_ _ | refine blk_drew ?_ | refine blk_alloc ?_ _)); refine blk_far ?_ NB232_236.out _; (with_reducible repeat (first | refine blk_drewN ?_ _ | refine blk_drew ?_ | refine blk_alloc ?_ _)); refine blk_far ?_ NB232_236.out _; (with_reducible repeat (first | refine blk_drewN ?_ _ | refine blk_drew ?_ | refine blk_alloc ?_ _)); refine blk_far ?_ NB232_236.out _; (with_reducible repeat (first | refine blk_drewN ?_ _ | refine blk_drew ?_ | refine blk_alloc ?_ _)); refine blk_far ?_ NB232_236.out _; (with_reducible repeat (first | refine blk_drewN ?_ _ | refine blk_drew ?_ | refine blk_alloc ?_ _)); exact BK232.out⟩, ⟨by (with_reducible repeat (first | refine blk_drewN ?_ _ | refine blk_drew ?_ | refine blk_alloc ?_ _)); refine blk_far ?_ NB234_236.out _; (with_reducible repeat (first | refine blk_drewN ?_ _ | refine blk_drew ?_ | refine blk_alloc ?_ _)); refine blk_far ?_ NB234_236.out _; (with_reducible repeat (first | refine blk_drewN ?_ _ | refine blk_drew ?_ | refine blk_alloc ?_ _)); refine blk_far ?_ NB234_236.out _; (with_reducible repeat (first | refine blk_drewN ?_ _ | refine blk_drew ?_ | refine blk_alloc ?_ _)); refine blk_far ?_ NB234_236.out _; (with_reducible repeat (first | refine blk_drewN ?_ _ | refine blk_drew ?_ | refine blk_alloc ?_ _)); refine blk_far ?_ NB234_236.out _; (with_reducible repeat (first | refine blk_drewN ?_ _ | refine blk_drew ?_ | refine blk_alloc ?_ _)); exact BK234.out⟩, ⟨by (with_reducible repeat (first | refine blk_drewN ?_ _ | refine blk_drew ?_ | refine blk_alloc ?_ _)); refine blk_put (cs := #[.slice A235_0 ((rd_T56 ((rd_T50 l0_0 x3_1).f3) x5_3).f0).length c235_0, .slice A235_1 ((rd_T56 ((rd_T50 l0_0 x3_1).f3) x5_3).f1).length c235_1, .int .i64 ((rd_T56 ((rd_T50 l0_0 x3_1).f3) x5_3).f2.f0), .int .i64 ((rd_T56 ((rd_T50 l0_0 x3_1).f3) x5_3).f2.f1), .slice none 0 0]) ?_ 4 _ rfl; (with_reducible repeat (first | refine blk_drewN ?_ _ | refine blk_drew ?_ | refine blk_alloc ?_ _)); refine blk_put (cs := #[.slice A235_0 ((rd_T56 ((rd_T50 l0_0 x3_1).f3) x5_3).f0).length c235_0, .slice A235_1 ((rd_T56 ((rd_T50 l0_0 x3_1).f3) x5_3).f1).length c235_1, .int .i64 ((rd_T56 ((rd_T50 l0_0 x3_1).f3) x5_3).f2.f0), .int .i64 0, .slice none 0 0]) ?_ 3 _ rfl; (with_reducible repeat (first | refine blk_drewN ?_ _ | refine blk_drew ?_ | refine blk_alloc ?_ _)); refine blk_put (cs := #[.slice A235_0 ((rd_T56 ((rd_T50 l0_0 x3_1).f3) x5_3).f0).length c235_0, .slice A235_1 ((rd_T56 ((rd_T50 l0_0 x3_1).f3) x5_3).f1).length c235_1, .int .i64 0, .int .i64 0, .slice none 0 0]) ?_ 2 _ rfl; (with_reducible repeat (first | refine blk_drewN ?_ _ | refine blk_drew ?_ | refine blk_alloc ?_ _)); refine blk_put (cs := #[.slice A235_0 ((rd_T56 ((rd_T50 l0_0 x3_1).f3) x5_3).f0).length c235_0, .slice none 0 0, .int .i64 0, .int .i64 0, .slice none 0 0]) ?_ 1 _ rfl; (with_reducible repeat (first | refine blk_drewN ?_ _ | refine blk_drew ?_ | refine blk_alloc ?_ _)); refine blk_put (cs := #[.slice none 0 0, .slice none 0 0, .int .i64 0, .int .i64 0, .slice none 0 0]) ?_ 0 _ rfl; (with_reducible repeat (first | refine blk_drewN ?_ _ | refine blk_drew ?_ | refine blk_alloc ?_ _)); exact BK236.out⟩, ⟨by repeat (first | (with_reducible first | exact HB.out | apply below_alloc | apply pw_below_drewN | apply below_drew1 | refine below_set ?_ GE232.out | refine below_set ?_ GE234.out | refine below_set ?_ GE236.out) | exact HB.out)⟩⟩
      clear HC25
      try clear c1
      try clear c2
      try clear c2b0
      try clear c2b1
      try clear p2
      try clear q2
      try clear hx2
      try clear c3
      try clear c4
      try clear c7
      try clear c7b0
      try clear c8
      try clear c8b0
      try clear c10
      try clear c12
      try clear c14
      try clear c14b0
      try clear c14b1
      try clear c15
      try clear c17
      try clear c17b0
      try clear c17b1
      try clear c18
      try clear c20
      try clear c22
      try clear c23
      try clear c23b0
      try clear p23
      try clear q23
      try clear hx23
      try clear c24
      try clear c24b0
      try clear c26
      try clear c29
      try clear c30
      try clear c32
      try clear c32b0
      try clear c32b1
      try clear c33
      try clear c34
      try clear c36
      try clear c36b0
      try clear c36b1
      try clear c37
      try clear c38
      try clear c40
      try clear c41
      try clear hcz10_0
      try clear hcz13_0
      try clear hcz13_1
      try clear hcz13_2
      try clear hcz13_3
      try clear hcz16_0
      try clear hcz16_1
      try clear hcz16_2
      try clear hcz16_3
      try clear hcz19_0
      try clear hcz19_1
      try clear hcz19_2
      try clear hcz19_3
      try clear hcz21_0
      try clear hcz21_1
      try clear hcz21_2
      try clear hcz21_3
      try clear hcz27_0
      try clear hcz27_1
      try clear hcz27_2
      try clear hcz27_3
      try clear hcz31_0
      try clear hcz31_1
      try clear hcz31_2
      try clear hcz31_3
      try clear hcz31_4
      try clear hcz35_0
      try clear hcz35_1
      try clear hcz35_2
      try clear hcz35_3
      try clear hcz35_4
      try clear hcz39_0
      try clear hcz39_1
      try clear hcz39_2
      try clear hcz39_3
      try clear hcz39_4
      try clear hcz42_0
      try clear hcz42_1
      try clear hcz42_2
      try clear hcz42_3
      try clear hcz42_4
      try clear hcz4_0
      try clear hcz6_0
      try clear hfz10_0
      try clear hfz13_0
      try clear hfz13_1
      try clear hfz13_2
      try clear hfz13_3
      try clear hfz16_0
      try clear hfz16_1
      try clear hfz16_2
      try clear hfz16_3
      try clear hfz19_0
      try clear hfz19_1
      try clear hfz19_2
      try clear hfz19_3
      try clear hfz21_0
      try clear hfz21_1
      try clear hfz21_2
      try clear hfz21_3
      try clear hfz27_0
      try clear hfz27_1
      try clear hfz27_2
      try clear hfz27_3
      try clear hfz31_0
      try clear hfz31_1
      try clear hfz31_2
      try clear hfz31_3
      try clear hfz31_4
      try clear hfz35_0
      try clear hfz35_1
      try clear hfz35_2
      try clear hfz35_3
      try clear hfz35_4
      try clear hfz39_0
      try clear hfz39_1
      try clear hfz39_2
      try clear hfz39_3
      try clear hfz39_4
      try clear hfz42_0
      try clear hfz42_1
      try clear hfz42_2
      try clear hfz42_3
      try clear hfz42_4
      try clear hfz4_0
      try clear hfz6_0
      try clear hx233_0
      try clear hx233_1
      try clear hx233_2
      try clear hx233_3
      try clear hx235_0
      try clear hx235_1
      try clear hx235_2
      try clear hx235_3
      try clear hx235_4
      try clear p2
      try clear p233
      try clear p235
      try clear q2
      try clear q233
      try clear q235
      obtain ⟨kq, x68_24, rfl, HA, HJ24, BK232, BK234, BK236, HB⟩ := hcut
      rcases kq with _ | kj24
      · exact absurd HA.out (by simp [fettleref02_Small.j3])
      have H := HA.out
      clear HA
      simp only [fettleref02_Small.j3] at H
      by_cases c43 : x68_24 = true
      · subst c43
        have H1 : (some false) = some r := by rw [if_pos rfl] at H; exact H
        clear H
        have H := H1
        clear H1
        obtain rfl := Option.some.inj H
        go_wp2
        go_ret
        exact ⟨by first | rfl | (simp [errW_none, errW_some] <;> rfl) | (simp [*, errW_none, errW_some] <;> rfl), by repeat (first | (with_reducible first | exact HB.out | apply below_alloc | apply pw_below_drewN | apply below_drew1 | refine below_set ?_ GE232.out | refine below_set ?_ GE234.out | refine below_set ?_ GE236.out) | exact HB.out)⟩
      replace c43 := Bool.eq_false_iff.mpr c43
      subst c43
      have H1 : (fettleref02_Small.l2 kj24 x3_1 x5_3 0 l0_0 ((rd_T50 l0_0 x3_1).f0) ((rd_T50 l0_0 x3_1).f1) ((rd_T50 l0_0 x3_1).f2) ((rd_T50 l0_0 x3_1).f3) ((rd_T56 ((rd_T50 l0_0 x3_1).f3) x5_3).f0) ((rd_T56 ((rd_T50 l0_0 x3_1).f3) x5_3).f1) ((rd_T56 ((rd_T50 l0_0 x3_1).f3) x5_3).f2.f0) ((rd_T56 ((rd_T50 l0_0 x3_1).f3) x5_3).f2.f1) ((rd_T56 ((rd_T50 l0_0 x3_1).f3) x5_3).f2.f2)) = some r := by rw [if_neg (show ¬ (false = true) by decide)] at H; exact H
      clear H
      have H := H1
      clear H1
      have H' := Aside0.mk H
      clear H
      go_wp2
      go_loopg [7] kj24 (fun kq v7 w' => ∃ (x7_5 : Int), v7 = .int .i64 x7_5 ∧ Aside0 (fettleref02_Small.l2 kq x3_1 x5_3 x7_5 l0_0 ((rd_T50 l0_0 x3_1).f0) ((rd_T50 l0_0 x3_1).f1) ((rd_T50 l0_0 x3_1).f2) ((rd_T50 l0_0 x3_1).f3) ((rd_T56 ((rd_T50 l0_0 x3_1).f3) x5_3).f0) ((rd_T56 ((rd_T50 l0_0 x3_1).f3) x5_3).f1) ((rd_T56 ((rd_T50 l0_0 x3_1).f3) x5_3).f2.f0) ((rd_T56 ((rd_T50 l0_0 x3_1).f3) x5_3).f2.f1) ((rd_T56 ((rd_T50 l0_0 x3_1).f3) x5_3).f2.f2) = some r) ∧ Aside0 (kq ≤ kj24) ∧ Aside0 (w'.heap[gb232]? = some (.cells #[(.slice (some ad233) l0_0.length c0_0)] 24 (0, 0))) ∧ Aside0 (w'.heap[gb234]? = some (.cells #[.int .i64 ((rd_T50 l0_0 x3_1).f0), .int .i64 ((rd_T50 l0_0 x3_1).f1), (.slice A233_2 ((rd_T50 l0_0 x3_1).f2).length c233_2), (.slice (some ad235) ((rd_T50 l0_0 x3_1).f3).length c233_3)] 50 (0, 0))) ∧ Aside0 (w'.heap[gb236]? = some (.cells #[(.slice A235_0 ((rd_T56 ((rd_T50 l0_0 x3_1).f3) x5_3).f0).length c235_0), (.slice A235_1 ((rd_T56 ((rd_T50 l0_0 x3_1).f3) x5_3).f1).length c235_1), .int .i64 ((rd_T56 ((rd_T50 l0_0 x3_1).f3) x5_3).f2.f0), .int .i64 ((rd_T56 ((rd_T50 l0_0 x3_1).f3) x5_3).f2.f1), (.slice A235_4 ((rd_T56 ((rd_T50 l0_0 x3_1).f3) x5_3).f2.f2).length c235_4)] 56 (0, 0))) ∧ Aside0 (Below w.heap.size w w'))
      case atStart => exact ⟨(0), (by first | rfl | (simp; done) | (simp [*]; done)), H', ⟨Nat.le_refl _⟩, ⟨by (with_reducible repeat (first | refine blk_drewN ?_ _ | refine blk_drew ?_ | refine blk_alloc ?_ _)); exact BK232.out⟩, ⟨by (with_reducible repeat (first | refine blk_drewN ?_ _ | refine blk_drew ?_ | refine blk_alloc ?_ _)); exact BK234.out⟩, ⟨by (with_reducible repeat (first | refine blk_drewN ?_ _ | refine blk_drew ?_ | refine blk_alloc ?_ _)); exact BK236.out⟩, ⟨by repeat (first | (with_reducible first | exact HB.out | apply below_alloc | apply pw_below_drewN | apply below_drew1 | refine below_set ?_ GE232.out | refine below_set ?_ GE234.out | refine below_set ?_ GE236.out) | exact HB.out)⟩⟩
      clear H'
      try clear c1
      try clear c2
      try clear c2b0
      try clear c2b1
      try clear p2
      try clear q2
      try clear hx2
      try clear c3
      try clear c4
      try clear c7
      try clear c7b0
      try clear c8
      try clear c8b0
      try clear c10
      try clear c12
      try clear c14
      try clear c14b0
      try clear c14b1
      try clear c15
      try clear c17
      try clear c17b0
      try clear c17b1
      try clear c18
      try clear c20
      try clear c22
      try clear c23
      try clear c23b0
      try clear p23
      try clear q23
      try clear hx23
      try clear c24
      try clear c24b0
      try clear c26
      try clear c29
      try clear c30
      try clear c32
      try clear c32b0
      try clear c32b1
      try clear c33
      try clear c34
      try clear c36
      try clear c36b0
      try clear c36b1
      try clear c37
      try clear c38
      try clear c40
      try clear c41
      try clear c43
      try clear hcz10_0
      try clear hcz13_0
      try clear hcz13_1
      try clear hcz13_2
      try clear hcz13_3
      try clear hcz16_0
      try clear hcz16_1
      try clear hcz16_2
      try clear hcz16_3
      try clear hcz19_0
      try clear hcz19_1
      try clear hcz19_2
      try clear hcz19_3
      try clear hcz21_0
      try clear hcz21_1
      try clear hcz21_2
      try clear hcz21_3
      try clear hcz27_0
      try clear hcz27_1
      try clear hcz27_2
      try clear hcz27_3
      try clear hcz31_0
      try clear hcz31_1
      try clear hcz31_2
      try clear hcz31_3
      try clear hcz31_4
      try clear hcz35_0
      try clear hcz35_1
      try clear hcz35_2
      try clear hcz35_3
      try clear hcz35_4
      try clear hcz39_0
      try clear hcz39_1
      try clear hcz39_2
      try clear hcz39_3
      try clear hcz39_4
      try clear hcz42_0
      try clear hcz42_1
      try clear hcz42_2
      try clear hcz42_3
      try clear hcz42_4
      try clear hcz4_0
      try clear hcz6_0
      try clear hfz10_0
      try clear hfz13_0
      try clear hfz13_1
      try clear hfz13_2
      try clear hfz13_3
      try clear hfz16_0
      try clear hfz16_1
      try clear hfz16_2
      try clear hfz16_3
      try clear hfz19_0
      try clear hfz19_1
      try clear hfz19_2
      try clear hfz19_3
      try clear hfz21_0
      try clear hfz21_1
      try clear hfz21_2
      try clear hfz21_3
      try clear hfz27_0
      try clear hfz27_1
      try clear hfz27_2
      try clear hfz27_3
      try clear hfz31_0
      try clear hfz31_1
      try clear hfz31_2
      try clear hfz31_3
      try clear hfz31_4
      try clear hfz35_0
      try clear hfz35_1
      try clear hfz35_2
      try clear hfz35_3
      try clear hfz35_4
      try clear hfz39_0
      try clear hfz39_1
      try clear hfz39_2
      try clear hfz39_3
      try clear hfz39_4
      try clear hfz42_0
      try clear hfz42_1
      try clear hfz42_2
      try clear hfz42_3
      try clear hfz42_4
      try clear hfz4_0
      try clear hfz6_0
      try clear hx233_0
      try clear hx233_1
      try clear hx233_2
      try clear hx233_3
      try clear hx235_0
      try clear hx235_1
      try clear hx235_2
      try clear hx235_3
      try clear hx235_4
      try clear p2
      try clear p23
      try clear p233
      try clear p235
      try clear q2
      try clear q23
      try clear q233
      try clear q235
      obtain ⟨x7_5, rfl, HA, HK5, BK232, BK234, BK236, HB⟩ := hrel
      rcases gk with _ | k5
      · exact absurd HA.out (by simp [fettleref02_Small.l2])
      have H := HA.out
      clear HA
      simp only [fettleref02_Small.l2] at H
      by_cases c44 : x7_5 < (((rd_T56 ((rd_T50 l0_0 x3_1).f3) x5_3).f1).length : Int)
      · rw [if_pos c44] at H
        have c44b0 : decide (x7_5 < (((rd_T56 ((rd_T50 l0_0 x3_1).f3) x5_3).f1).length : Int)) = true := decide_eq_true c44
        clear c44
        by_cases c45 : 0 ≤ x7_5
        rotate_left
        · rw [if_neg c45] at H
          exact absurd H (by simp)
        rw [if_pos c45] at H
        have c45b0 : decide (0 ≤ x7_5) = true := decide_eq_true c45
        clear c45
        by_cases c46 : (((rd_T58 ((rd_T56 ((rd_T50 l0_0 x3_1).f3) x5_3).f1) x7_5).f2).length : Int) > 300
        · rw [if_pos c46] at H
          have c46b0 : decide (300 < (((rd_T58 ((rd_T56 ((rd_T50 l0_0 x3_1).f3) x5_3).f1) x7_5).f2).length : Int)) = true := decide_eq_true c46
          have c46b1 : decide (300 < ((rd_T58 ((rd_T56 ((rd_T50 l0_0 x3_1).f3) x5_3).f1) x7_5).f2).length) = true := decide_eq_true (by omega)
          clear c46
          obtain rfl := Option.some.inj H
          have hnb47 := NB236_232.out
          have hnc47 := NB232_236.out
          have hnb48 := NB236_234.out
          have hnc48 := NB234_236.out
          have hcz49_0 : wr.cell? ⟨gb236, 0, none⟩ = some (.slice A235_0 ((rd_T56 ((rd_T50 l0_0 x3_1).f3) x5_3).f0).length c235_0) := (blk_cell BK236.out 0).trans rfl
          have hcz49_1 : wr.cell? ⟨gb236, 1, none⟩ = some (.slice A235_1 ((rd_T56 ((rd_T50 l0_0 x3_1).f3) x5_3).f1).length c235_1) := (blk_cell BK236.out 1).trans rfl
          have hcz49_2 : wr.cell? ⟨gb236, 2, none⟩ = some (.int .i64 ((rd_T56 ((rd_T50 l0_0 x3_1).f3) x5_3).f2.f0)) := (blk_cell BK236.out 2).trans rfl
          have hcz49_3 : wr.cell? ⟨gb236, 3, none⟩ = some (.int .i64 ((rd_T56 ((rd_T50 l0_0 x3_1).f3) x5_3).f2.f1)) := (blk_cell BK236.out 3).trans rfl
          have hcz49_4 : wr.cell? ⟨gb236, 4, none⟩ = some (.slice A235_4 ((rd_T56 ((rd_T50 l0_0 x3_1).f3) x5_3).f2.f2).length c235_4) := (blk_cell BK236.out 4).trans rfl
          have hfz49_0 := blk_frozen BK236.out 0
          have hfz49_1 := blk_frozen BK236.out 1
          have hfz49_2 := blk_frozen BK236.out 2
          have hfz49_3 := blk_frozen BK236.out 3
          have hfz49_4 := blk_frozen BK236.out 4
          have p237 : 0 ≤ (x7_5 : Int) := of_decide_eq_true (by with_reducible assumption)
          have q237 : x7_5 < (((rd_T56 ((rd_T50 l0_0 x3_1).f3) x5_3).f1).length : Int) := of_decide_eq_true (by with_reducible assumption)
          obtain ⟨ad237, A237_2, c237_2, e237, hx237_0, hx237_1, hx237_2, hx237_3, hx237_4, hl237_2, hi237_2⟩ := at_T58 HR235_1.out x7_5 p237 q237
          cases e237
          replace hx237_0 := (HB.out.cell (World.block_lt_of_cell? w _ hx237_0)).trans hx237_0
          replace hx237_1 := (HB.out.cell (World.block_lt_of_cell? w _ hx237_1)).trans hx237_1
          replace hx237_2 := (HB.out.cell (World.block_lt_of_cell? w _ hx237_2)).trans hx237_2
          replace hx237_3 := (HB.out.cell (World.block_lt_of_cell? w _ hx237_3)).trans hx237_3
          replace hx237_4 := (HB.out.cell (World.block_lt_of_cell? w _ hx237_4)).trans hx237_4
          have HR237_2 := Aside0.mk hi237_2
          have HC237_2 := Aside0.mk hl237_2
          clear hi237_2 hl237_2
          replace p237 := eq_true p237
          replace q237 := eq_true q237
          go_wp2
          go_ret
          exact ⟨by first | rfl | (simp [errW_none, errW_some] <;> rfl) | (simp [*, errW_none, errW_some] <;> rfl), by repeat (first | (with_reducible first | exact HB.out | apply below_alloc | apply pw_below_drewN | apply below_drew1 | refine below_set ?_ GE232.out | refine below_set ?_ GE234.out | refine below_set ?_ GE236.out) | exact HB.out)⟩
        rw [if_neg c46] at H
        have c46b0 : decide (300 < (((rd_T58 ((rd_T56 ((rd_T50 l0_0 x3_1).f3) x5_3).f1) x7_5).f2).length : Int)) = false := decide_eq_false c46
        have c46b1 : decide (300 < ((rd_T58 ((rd_T56 ((rd_T50 l0_0 x3_1).f3) x5_3).f1) x7_5).f2).length) = false := decide_eq_false (by omega)
        clear c46
        have H' := Aside0.mk H
        clear H
        have hnb50 := NB236_232.out
        have hnc50 := NB232_236.out
        have hnb51 := NB236_234.out
        have hnc51 := NB234_236.out
        have hcz52_0 : wr.cell? ⟨gb236, 0, none⟩ = some (.slice A235_0 ((rd_T56 ((rd_T50 l0_0 x3_1).f3) x5_3).f0).length c235_0) := (blk_cell BK236.out 0).trans rfl
        have hcz52_1 : wr.cell? ⟨gb236, 1, none⟩ = some (.slice A235_1 ((rd_T56 ((rd_T50 l0_0 x3_1).f3) x5_3).f1).length c235_1) := (blk_cell BK236.out 1).trans rfl
        have hcz52_2 : wr.cell? ⟨gb236, 2, none⟩ = some (.int .i64 ((rd_T56 ((rd_T50 l0_0 x3_1).f3) x5_3).f2.f0)) := (blk_cell BK236.out 2).trans rfl
        have hcz52_3 : wr.cell? ⟨gb236, 3, none⟩ = some (.int .i64 ((rd_T56 ((rd_T50 l0_0 x3_1).f3) x5_3).f2.f1)) := (blk_cell BK236.out 3).trans rfl
        have hcz52_4 : wr.cell? ⟨gb236, 4, none⟩ = some (.slice A235_4 ((rd_T56 ((rd_T50 l0_0 x3_1).f3) x5_3).f2.f2).length c235_4) := (blk_cell BK236.out 4).trans rfl
        have hfz52_0 := blk_frozen BK236.out 0
        have hfz52_1 := blk_frozen BK236.out 1
        have hfz52_2 := blk_frozen BK236.out 2
        have hfz52_3 := blk_frozen BK236.out 3
        have hfz52_4 := blk_frozen BK236.out 4
        have p237 : 0 ≤ (x7_5 : Int) := of_decide_eq_true (by with_reducible assumption)
        have q237 : x7_5 < (((rd_T56 ((rd_T50 l0_0 x3_1).f3) x5_3).f1).length : Int) := of_decide_eq_true (by with_reducible assumption)
        obtain ⟨ad237, A237_2, c237_2, e237, hx237_0, hx237_1, hx237_2, hx237_3, hx237_4, hl237_2, hi237_2⟩ := at_T58 HR235_1.out x7_5 p237 q237
        cases e237
        replace hx237_0 := (HB.out.cell (World.block_lt_of_cell? w _ hx237_0)).trans hx237_0
        replace hx237_1 := (HB.out.cell (World.block_lt_of_cell? w _ hx237_1)).trans hx237_1
        replace hx237_2 := (HB.out.cell (World.block_lt_of_cell? w _ hx237_2)).trans hx237_2
        replace hx237_3 := (HB.out.cell (World.block_lt_of_cell? w _ hx237_3)).trans hx237_3
        replace hx237_4 := (HB.out.cell (World.block_lt_of_cell? w _ hx237_4)).trans hx237_4
        have HR237_2 := Aside0.mk hi237_2
        have HC237_2 := Aside0.mk hl237_2
        clear hi237_2 hl237_2
        replace p237 := eq_true p237
        replace q237 := eq_true q237
        go_wp2
        go_roundg k5
        case measure => have := HK1.out; have := HJ8.out; have := HK3.out; have := HJ24.out; have := HK5.out; omega
        case rel => exact ⟨(wrap64 (x7_5 + 1)), (by first | rfl | (simp; done) | (simp [*]; done)), H', ⟨by have := HK1.out; have := HJ8.out; have := HK3.out; have := HJ24.out; have := HK5.out; omega⟩, ⟨by (with_reducible repeat (first | refine blk_drewN ?_ _ | refine blk_drew ?_ | refine blk_alloc ?_ _)); exact BK232.out⟩, ⟨by (with_reducible repeat (first | refine blk_drewN ?_ _ | refine blk_drew ?_ | refine blk_alloc ?_ _)); exact BK234.out⟩, ⟨by (with_reducible repeat (first | refine blk_drewN ?_ _ | refine blk_drew ?_ | refine blk_alloc ?_ _)); exact BK236.out⟩, ⟨by repeat (first | (with_reducible first | exact HB.out | apply below_alloc | apply pw_below_drewN | apply below_drew1 | refine below_set ?_ GE232.out | refine below_set ?_ GE234.out | refine below_set ?_ GE236.out) | exact HB.out)⟩⟩
      rw [if_neg c44] at H
      have c44b0 : decide (x7_5 < (((rd_T56 ((rd_T50 l0_0 x3_1).f3) x5_3).f1).length : Int)) = false := decide_eq_false c44
      clear c44
      have H' := Aside0.mk H
      clear H
      have hnb53 := NB236_232.out
      have hnc53 := NB232_236.out
      have hnb54 := NB236_234.out
      have hnc54 := NB234_236.out
      have hcz55_0 : wr.cell? ⟨gb236, 0, none⟩ = some (.slice A235_0 ((rd_T56 ((rd_T50 l0_0 x3_1).f3) x5_3).f0).length c235_0) := (blk_cell BK236.out 0).trans rfl
      have hcz55_1 : wr.cell? ⟨gb236, 1, none⟩ = some (.slice A235_1 ((rd_T56 ((rd_T50 l0_0 x3_1).f3) x5_3).f1).length c235_1) := (blk_cell BK236.out 1).trans rfl
      have hcz55_2 : wr.cell? ⟨gb236, 2, none⟩ = some (.int .i64 ((rd_T56 ((rd_T50 l0_0 x3_1).f3) x5_3).f2.f0)) := (blk_cell BK236.out 2).trans rfl
      have hcz55_3 : wr.cell? ⟨gb236, 3, none⟩ = some (.int .i64 ((rd_T56 ((rd_T50 l0_0 x3_1).f3) x5_3).f2.f1)) := (blk_cell BK236.out 3).trans rfl
      have hcz55_4 : wr.cell? ⟨gb236, 4, none⟩ = some (.slice A235_4 ((rd_T56 ((rd_T50 l0_0 x3_1).f3) x5_3).f2.f2).length c235_4) := (blk_cell BK236.out 4).trans rfl
      have hfz55_0 := blk_frozen BK236.out 0
      have hfz55_1 := blk_frozen BK236.out 1
      have hfz55_2 := blk_frozen BK236.out 2
      have hfz55_3 := blk_frozen BK236.out 3
      have hfz55_4 := blk_frozen BK236.out 4
      go_wp2
      go_loopg [8] k5 (fun kq v8 w' => ∃ (x8_6 : Int), v8 = .int .i64 x8_6 ∧ Aside0 (fettleref02_Small.l3 kq x3_1 x5_3 x8_6 l0_0 ((rd_T50 l0_0 x3_1).f0) ((rd_T50 l0_0 x3_1).f1) ((rd_T50 l0_0 x3_1).f2) ((rd_T50 l0_0 x3_1).f3) ((rd_T56 ((rd_T50 l0_0 x3_1).f3) x5_3).f0) ((rd_T56 ((rd_T50 l0_0 x3_1).f3) x5_3).f1) ((rd_T56 ((rd_T50 l0_0 x3_1).f3) x5_3).f2.f0) ((rd_T56 ((rd_T50 l0_0 x3_1).f3) x5_3).f2.f1) ((rd_T56 ((rd_T50 l0_0 x3_1).f3) x5_3).f2.f2) = some r) ∧ Aside0 (kq ≤ k5) ∧ Aside0 (w'.heap[gb232]? = some (.cells #[(.slice (some ad233) l0_0.length c0_0)] 24 (0, 0))) ∧ Aside0 (w'.heap[gb234]? = some (.cells #[.int .i64 ((rd_T50 l0_0 x3_1).f0), .int .i64 ((rd_T50 l0_0 x3_1).f1), (.slice A233_2 ((rd_T50 l0_0 x3_1).f2).length c233_2), (.slice (some ad235) ((rd_T50 l0_0 x3_1).f3).length c233_3)] 50 (0, 0))) ∧ Aside0 (w'.heap[gb236]? = some (.cells #[(.slice A235_0 ((rd_T56 ((rd_T50 l0_0 x3_1).f3) x5_3).f0).length c235_0), (.slice A235_1 ((rd_T56 ((rd_T50 l0_0 x3_1).f3) x5_3).f1).length c235_1), .int .i64 ((rd_T56 ((rd_T50 l0_0 x3_1).f3) x5_3).f2.f0), .int .i64 ((rd_T56 ((rd_T50 l0_0 x3_1).f3) x5_3).f2.f1), (.slice A235_4 ((rd_T56 ((rd_T50 l0_0 x3_1).f3) x5_3).f2.f2).length c235_4)] 56 (0, 0))) ∧ Aside0 (Below w.heap.size w w'))
      case atStart => exact ⟨(0), (by first | rfl | (simp; done) | (simp [*]; done)), H', ⟨Nat.le_refl _⟩, ⟨by (with_reducible repeat (first | refine blk_drewN ?_ _ | refine blk_drew ?_ | refine blk_alloc ?_ _)); exact BK232.out⟩, ⟨by (with_reducible repeat (first | refine blk_drewN ?_ _ | refine blk_drew ?_ | refine blk_alloc ?_ _)); exact BK234.out⟩, ⟨by (with_reducible repeat (first | refine blk_drewN ?_ _ | refine blk_drew ?_ | refine blk_alloc ?_ _)); exact BK236.out⟩, ⟨by repeat (first | (with_reducible first | exact HB.out | apply below_alloc | apply pw_below_drewN | apply below_drew1 | refine below_set ?_ GE232.out | refine below_set ?_ GE234.out | refine below_set ?_ GE236.out) | exact HB.out)⟩⟩
      clear H'
      try clear c1
      try clear c2
      try clear c2b0
      try clear c2b1
      try clear p2
      try clear q2
      try clear hx2
      try clear c3
      try clear c4
      try clear c5
      try clear p6
      try clear c7
      try clear c7b0
      try clear c8
      try clear c8b0
      try clear c10
      try clear c12
      try clear c14
      try clear c14b0
      try clear c14b1
      try clear c15
      try clear c17
      try clear c17b0
      try clear c17b1
      try clear c18
      try clear c20
      try clear c22
      try clear c23
      try clear c23b0
      try clear p23
      try clear q23
      try clear hx23
      try clear c24
      try clear c24b0
      try clear c26
      try clear c29
      try clear c30
      try clear c32
      try clear c32b0
      try clear c32b1
      try clear c33
      try clear c34
      try clear c36
      try clear c36b0
      try clear c36b1
      try clear c37
      try clear c38
      try clear c40
      try clear c41
      try clear c43
      try clear c44
      try clear c44b0
      try clear c45
      try clear c45b0
      try clear c46
      try clear c46b0
      try clear c46b1
      try clear c47
      try clear c48
      try clear c50
      try clear c51
      try clear c53
      try clear c54
      try clear hcz10_0
      try clear hcz13_0
      try clear hcz13_1
      try clear hcz13_2
      try clear hcz13_3
      try clear hcz16_0
      try clear hcz16_1
      try clear hcz16_2
      try clear hcz16_3
      try clear hcz19_0
      try clear hcz19_1
      try clear hcz19_2
      try clear hcz19_3
      try clear hcz21_0
      try clear hcz21_1
      try clear hcz21_2
      try clear hcz21_3
      try clear hcz27_0
      try clear hcz27_1
      try clear hcz27_2
      try clear hcz27_3
      try clear hcz31_0
      try clear hcz31_1
      try clear hcz31_2
      try clear hcz31_3
      try clear hcz31_4
      try clear hcz35_0
      try clear hcz35_1
      try clear hcz35_2
      try clear hcz35_3
      try clear hcz35_4
      try clear hcz39_0
      try clear hcz39_1
      try clear hcz39_2
      try clear hcz39_3
      try clear hcz39_4
      try clear hcz42_0
      try clear hcz42_1
      try clear hcz42_2
      try clear hcz42_3
      try clear hcz42_4
      try clear hcz49_0
      try clear hcz49_1
      try clear hcz49_2
      try clear hcz49_3
      try clear hcz49_4
      try clear hcz4_0
      try clear hcz52_0
      try clear hcz52_1
      try clear hcz52_2
      try clear hcz52_3
      try clear hcz52_4
      try clear hcz55_0
      try clear hcz55_1
      try clear hcz55_2
      try clear hcz55_3
      try clear hcz55_4
      try clear hcz6_0
      try clear hfz10_0
      try clear hfz13_0
      try clear hfz13_1
      try clear hfz13_2
      try clear hfz13_3
      try clear hfz16_0
      try clear hfz16_1
      try clear hfz16_2
      try clear hfz16_3
      try clear hfz19_0
      try clear hfz19_1
      try clear hfz19_2
      try clear hfz19_3
      try clear hfz21_0
      try clear hfz21_1
      try clear hfz21_2
      try clear hfz21_3
      try clear hfz27_0
      try clear hfz27_1
      try clear hfz27_2
      try clear hfz27_3
      try clear hfz31_0
      try clear hfz31_1
      try clear hfz31_2
      try clear hfz31_3
      try clear hfz31_4
      try clear hfz35_0
      try clear hfz35_1
      try clear hfz35_2
      try clear hfz35_3
      try clear hfz35_4
      try clear hfz39_0
      try clear hfz39_1
      try clear hfz39_2
      try clear hfz39_3
      try clear hfz39_4
      try clear hfz42_0
      try clear hfz42_1
      try clear hfz42_2
      try clear hfz42_3
      try clear hfz42_4
      try clear hfz49_0
      try clear hfz49_1
      try clear hfz49_2
      try clear hfz49_3
      try clear hfz49_4
      try clear hfz4_0
      try clear hfz52_0
      try clear hfz52_1
      try clear hfz52_2
      try clear hfz52_3
      try clear hfz52_4
      try clear hfz55_0
      try clear hfz55_1
      try clear hfz55_2
      try clear hfz55_3
      try clear hfz55_4
      try clear hfz6_0
      try clear hx233_0
      try clear hx233_1
      try clear hx233_2
      try clear hx233_3
      try clear hx235_0
      try clear hx235_1
      try clear hx235_2
      try clear hx235_3
      try clear hx235_4
      try clear hx237_0
      try clear hx237_1
      try clear hx237_2
      try clear hx237_3
      try clear hx237_4
      try clear p2
      try clear p23
      try clear p233
      try clear p235
      try clear p237
      try clear q2
      try clear q23
      try clear q233
      try clear q235
      try clear q237
      obtain ⟨x8_6, rfl, HA, HK6, BK232, BK234, BK236, HB⟩ := hrel
      rcases gk with _ | k6
      · exact absurd HA.out (by simp [fettleref02_Small.l3])
      have H := HA.out
      clear HA
      simp only [fettleref02_Small.l3] at H
      by_cases c56 : x8_6 < (((rd_T56 ((rd_T50 l0_0 x3_1).f3) x5_3).f0).length : Int)
      · rw [if_pos c56] at H
        have c56b0 : decide (x8_6 < (((rd_T56 ((rd_T50 l0_0 x3_1).f3) x5_3).f0).length : Int)) = true := decide_eq_true c56
        clear c56
        by_cases c57 : 0 ≤ x8_6
        rotate_left
        · rw [if_neg c57] at H
          exact absurd H (by simp)
        rw [if_pos c57] at H
        have c57b0 : decide (0 ≤ x8_6) = true := decide_eq_true c57
        clear c57
        by_cases c58 : (((rd_T60 ((rd_T56 ((rd_T50 l0_0 x3_1).f3) x5_3).f0) x8_6).f1).length : Int) > 300
        · rw [if_pos c58] at H
          have c58b0 : decide (300 < (((rd_T60 ((rd_T56 ((rd_T50 l0_0 x3_1).f3) x5_3).f0) x8_6).f1).length : Int)) = true := decide_eq_true c58
          have c58b1 : decide (300 < ((rd_T60 ((rd_T56 ((rd_T50 l0_0 x3_1).f3) x5_3).f0) x8_6).f1).length) = true := decide_eq_true (by omega)
          clear c58
          obtain rfl := Option.some.inj H
          have hnb59 := NB236_232.out
          have hnc59 := NB232_236.out
          have hnb60 := NB236_234.out
          have hnc60 := NB234_236.out
          have hcz61_0 : wr.cell? ⟨gb236, 0, none⟩ = some (.slice A235_0 ((rd_T56 ((rd_T50 l0_0 x3_1).f3) x5_3).f0).length c235_0) := (blk_cell BK236.out 0).trans rfl
          have hcz61_1 : wr.cell? ⟨gb236, 1, none⟩ = some (.slice A235_1 ((rd_T56 ((rd_T50 l0_0 x3_1).f3) x5_3).f1).length c235_1) := (blk_cell BK236.out 1).trans rfl
          have hcz61_2 : wr.cell? ⟨gb236, 2, none⟩ = some (.int .i64 ((rd_T56 ((rd_T50 l0_0 x3_1).f3) x5_3).f2.f0)) := (blk_cell BK236.out 2).trans rfl
          have hcz61_3 : wr.cell? ⟨gb236, 3, none⟩ = some (.int .i64 ((rd_T56 ((rd_T50 l0_0 x3_1).f3) x5_3).f2.f1)) := (blk_cell BK236.out 3).trans rfl
          have hcz61_4 : wr.cell? ⟨gb236, 4, none⟩ = some (.slice A235_4 ((rd_T56 ((rd_T50 l0_0 x3_1).f3) x5_3).f2.f2).length c235_4) := (blk_cell BK236.out 4).trans rfl
          have hfz61_0 := blk_frozen BK236.out 0
          have hfz61_1 := blk_frozen BK236.out 1
          have hfz61_2 := blk_frozen BK236.out 2
          have hfz61_3 := blk_frozen BK236.out 3
          have hfz61_4 := blk_frozen BK236.out 4
          have p238 : 0 ≤ (x8_6 : Int) := of_decide_eq_true (by with_reducible assumption)
          have q238 : x8_6 < (((rd_T56 ((rd_T50 l0_0 x3_1).f3) x5_3).f0).length : Int) := of_decide_eq_true (by with_reducible assumption)
          obtain ⟨ad238, A238_1, c238_1, e238, hx238_0, hx238_1, hl238_1, hi238_1⟩ := at_T60 HR235_0.out x8_6 p238 q238
          cases e238
          replace hx238_0 := (HB.out.cell (World.block_lt_of_cell? w _ hx238_0)).trans hx238_0
          replace hx238_1 := (HB.out.cell (World.block_lt_of_cell? w _ hx238_1)).trans hx238_1
          have HR238_1 := Aside0.mk hi238_1
          have HC238_1 := Aside0.mk hl238_1
          clear hi238_1 hl238_1
          replace p238 := eq_true p238
          replace q238 := eq_true q238
          go_wp2
          go_ret
          exact ⟨by first | rfl | (simp [errW_none, errW_some] <;> rfl) | (simp [*, errW_none, errW_some] <;> rfl), by repeat (first | (with_reducible first | exact HB.out | apply below_alloc | apply pw_below_drewN | apply below_drew1 | refine below_set ?_ GE232.out | refine below_set ?_ GE234.out | refine below_set ?_ GE236.out) | exact HB.out)⟩
        rw [if_neg c58] at H
        have c58b0 : decide (300 < (((rd_T60 ((rd_T56 ((rd_T50 l0_0 x3_1).f3) x5_3).f0) x8_6).f1).length : Int)) = false := decide_eq_false c58
        have c58b1 : decide (300 < ((rd_T60 ((rd_T56 ((rd_T50 l0_0 x3_1).f3) x5_3).f0) x8_6).f1).length) = false := decide_eq_false (by omega)
        clear c58
        have H' := Aside0.mk H
        clear H
        have hnb62 := NB236_232.out
        have hnc62 := NB232_236.out
        have hnb63 := NB236_234.out
        have hnc63 := NB234_236.out
        have hcz64_0 : wr.cell? ⟨gb236, 0, none⟩ = some (.slice A235_0 ((rd_T56 ((rd_T50 l0_0 x3_1).f3) x5_3).f0).length c235_0) := (blk_cell BK236.out 0).trans rfl
        have hcz64_1 : wr.cell? ⟨gb236, 1, none⟩ = some (.slice A235_1 ((rd_T56 ((rd_T50 l0_0 x3_1).f3) x5_3).f1).length c235_1) := (blk_cell BK236.out 1).trans rfl
        have hcz64_2 : wr.cell? ⟨gb236, 2, none⟩ = some (.int .i64 ((rd_T56 ((rd_T50 l0_0 x3_1).f3) x5_3).f2.f0)) := (blk_cell BK236.out 2).trans rfl
        have hcz64_3 : wr.cell? ⟨gb236, 3, none⟩ = some (.int .i64 ((rd_T56 ((rd_T50 l0_0 x3_1).f3) x5_3).f2.f1)) := (blk_cell BK236.out 3).trans rfl
        have hcz64_4 : wr.cell? ⟨gb236, 4, none⟩ = some (.slice A235_4 ((rd_T56 ((rd_T50 l0_0 x3_1).f3) x5_3).f2.f2).length c235_4) := (blk_cell BK236.out 4).trans rfl
        have hfz64_0 := blk_frozen BK236.out 0
        have hfz64_1 := blk_frozen BK236.out 1
        have hfz64_2 := blk_frozen BK236.out 2
        have hfz64_3 := blk_frozen BK236.out 3
        have hfz64_4 := blk_frozen BK236.out 4
        have p238 : 0 ≤ (x8_6 : Int) := of_decide_eq_true (by with_reducible assumption)
        have q238 : x8_6 < (((rd_T56 ((rd_T50 l0_0 x3_1).f3) x5_3).f0).length : Int) := of_decide_eq_true (by with_reducible assumption)
        obtain ⟨ad238, A238_1, c238_1, e238, hx238_0, hx238_1, hl238_1, hi238_1⟩ := at_T60 HR235_0.out x8_6 p238 q238
        cases e238
        replace hx238_0 := (HB.out.cell (World.block_lt_of_cell? w _ hx238_0)).trans hx238_0
        replace hx238_1 := (HB.out.cell (World.block_lt_of_cell? w _ hx238_1)).trans hx238_1
        have HR238_1 := Aside0.mk hi238_1
        have HC238_1 := Aside0.mk hl238_1
        clear hi238_1 hl238_1
        replace p238 := eq_true p238
        replace q238 := eq_true q238
        go_wp2
        go_roundg k6
        case measure => have := HK1.out; have := HJ8.out; have := HK3.out; have := HJ24.out; have := HK5.out; have := HK6.out; omega
        case rel => exact ⟨(wrap64 (x8_6 + 1)), (by first | rfl | (simp; done) | (simp [*]; done)), H', ⟨by have := HK1.out; have := HJ8.out; have := HK3.out; have := HJ24.out; have := HK5.out; have := HK6.out; omega⟩, ⟨by (with_reducible repeat (first | refine blk_drewN ?_ _ | refine blk_drew ?_ | refine blk_alloc ?_ _)); exact BK232.out⟩, ⟨by (with_reducible repeat (first | refine blk_drewN ?_ _ | refine blk_drew ?_ | refine blk_alloc ?_ _)); exact BK234.out⟩, ⟨by (with_reducible repeat (first | refine blk_drewN ?_ _ | refine blk_drew ?_ | refine blk_alloc ?_ _)); exact BK236.out⟩, ⟨by repeat (first | (with_reducible first | exact HB.out | apply below_alloc | apply pw_below_drewN | apply below_drew1 | refine below_set ?_ GE232.out | refine below_set ?_ GE234.out | refine below_set ?_ GE236.out) | exact HB.out)⟩⟩
      rw [if_neg c56] at H
      have c56b0 : decide (x8_6 < (((rd_T56 ((rd_T50 l0_0 x3_1).f3) x5_3).f0).length : Int)) = false := decide_eq_false c56
      clear c56
      have H' := Aside0.mk H
      clear H
      have hnb65 := NB236_232.out
      have hnc65 := NB232_236.out
      have hnb66 := NB236_234.out
      have hnc66 := NB234_236.out
      have hcz67_0 : wr.cell? ⟨gb236, 0, none⟩ = some (.slice A235_0 ((rd_T56 ((rd_T50 l0_0 x3_1).f3) x5_3).f0).length c235_0) := (blk_cell BK236.out 0).trans rfl
      have hcz67_1 : wr.cell? ⟨gb236, 1, none⟩ = some (.slice A235_1 ((rd_T56 ((rd_T50 l0_0 x3_1).f3) x5_3).f1).length c235_1) := (blk_cell BK236.out 1).trans rfl
      have hcz67_2 : wr.cell? ⟨gb236, 2, none⟩ = some (.int .i64 ((rd_T56 ((rd_T50 l0_0 x3_1).f3) x5_3).f2.f0)) := (blk_cell BK236.out 2).trans rfl
      have hcz67_3 : wr.cell? ⟨gb236, 3, none⟩ = some (.int .i64 ((rd_T56 ((rd_T50 l0_0 x3_1).f3) x5_3).f2.f1)) := (blk_cell BK236.out 3).trans rfl
      have hcz67_4 : wr.cell? ⟨gb236, 4, none⟩ = some (.slice A235_4 ((rd_T56 ((rd_T50 l0_0 x3_1).f3) x5_3).f2.f2).length c235_4) := (blk_cell BK236.out 4).trans rfl
      have hfz67_0 := blk_frozen BK236.out 0
      have hfz67_1 := blk_frozen BK236.out 1
      have hfz67_2 := blk_frozen BK236.out 2
      have hfz67_3 := blk_frozen BK236.out 3
      have hfz67_4 := blk_frozen BK236.out 4
      go_wp2
      go_roundg k6
      case measure => have := HK1.out; have := HJ8.out; have := HK3.out; have := HJ24.out; have := HK5.out; have := HK6.out; omega
      case rel => exact ⟨(wrap64 (x5_3 + 1)), (by first | rfl | (simp; done) | (simp [*]; done)), H', ⟨by have := HK1.out; have := HJ8.out; have := HK3.out; have := HJ24.out; have := HK5.out; have := HK6.out; omega⟩, ⟨by (with_reducible repeat (first | refine blk_drewN ?_ _ | refine blk_drew ?_ | refine blk_alloc ?_ _)); exact BK232.out⟩, ⟨by (with_reducible repeat (first | refine blk_drewN ?_ _ | refine blk_drew ?_ | refine blk_alloc ?_ _)); exact BK234.out⟩, ⟨by repeat (first | (with_reducible first | exact HB.out | apply below_alloc | apply pw_below_drewN | apply below_drew1 | refine below_set ?_ GE232.out | refine below_set ?_ GE234.out | refine below_set ?_ GE236.out) | exact HB.out)⟩⟩
    rw [if_neg c23] at H
    have c23b0 : decide (x5_3 < (((rd_T50 l0_0 x3_1).f3).length : Int)) = false := decide_eq_false c23
    clear c23
    have H' := Aside0.mk H
    clear H
    have hnb68 := NB234_232.out
    have hnc68 := NB232_234.out
    have hcz69_0 : wr.cell? ⟨gb234, 0, none⟩ = some (.int .i64 ((rd_T50 l0_0 x3_1).f0)) := (blk_cell BK234.out 0).trans rfl
    have hcz69_1 : wr.cell? ⟨gb234, 1, none⟩ = some (.int .i64 ((rd_T50 l0_0 x3_1).f1)) := (blk_cell BK234.out 1).trans rfl
    have hcz69_2 : wr.cell? ⟨gb234, 2, none⟩ = some (.slice A233_2 ((rd_T50 l0_0 x3_1).f2).length c233_2) := (blk_cell BK234.out 2).trans rfl
    have hcz69_3 : wr.cell? ⟨gb234, 3, none⟩ = some (.slice A233_3 ((rd_T50 l0_0 x3_1).f3).length c233_3) := (blk_cell BK234.out 3).trans rfl
    have hfz69_0 := blk_frozen BK234.out 0
    have hfz69_1 := blk_frozen BK234.out 1
    have hfz69_2 := blk_frozen BK234.out 2
    have hfz69_3 := blk_frozen BK234.out 3
    go_wp2
    go_roundg k3
    case measure => have := HK1.out; have := HJ8.out; have := HK3.out; omega
    case rel => exact ⟨(wrap64 (x3_1 + 1)), (by first | rfl | (simp; done) | (simp [*]; done)), H', ⟨by have := HK1.out; have := HJ8.out; have := HK3.out; omega⟩, ⟨by (with_reducible repeat (first | refine blk_drewN ?_ _ | refine blk_drew ?_ | refine blk_alloc ?_ _)); exact BK232.out⟩, ⟨by repeat (first | (with_reducible first | exact HB.out | apply below_alloc | apply pw_below_drewN | apply below_drew1 | refine below_set ?_ GE232.out | refine below_set ?_ GE234.out) | exact HB.out)⟩⟩
  rw [if_neg c7] at H
  have c7b0 : decide (x3_1 < (l0_0.length : Int)) = false := decide_eq_false c7
  clear c7
  obtain rfl := Option.some.inj H
  have hcz70_0 : wr.cell? ⟨gb232, 0, none⟩ = some (.slice A0_0 l0_0.length c0_0) := (blk_cell BK232.out 0).trans rfl
  have hfz70_0 := blk_frozen BK232.out 0
  go_wp2
  go_ret
  exact ⟨by first | rfl | (simp [errW_none, errW_some] <;> rfl) | (simp [*, errW_none, errW_some] <;> rfl), by repeat (first | (with_reducible first | exact HB.out | apply below_alloc | apply pw_below_drewN | apply below_drew1 | refine below_set ?_ GE232.out) | exact HB.out)⟩

end Go.Proofs.YtckebppacealeaaDoor.PCodeUnlike
