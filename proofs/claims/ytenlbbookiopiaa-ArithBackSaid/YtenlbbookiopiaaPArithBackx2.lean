-- Laid by a program of this session (wip/pp/patch.py over the kit's print).
import Derived.Test.YtenlbbookiopiaaPArithBackx0
import Derived.Test.YtenlbbookiopiaaPArithBackx1
namespace Go.Proofs.Ytenlbbookiopiaa.PArithBack
open Go.RowKit Go.Proofs.YtenlbbookiopiaaW.PrintWords Go.Proofs.YtenlbbookiopiaaW.PrintLast Go.Proofs.YtenlbbookiopiaaW.PrintMore
attribute [local go_sem] max2_int min2_int max_two min_two max_three min_three max_four min_four   -- for this text's walks alone
attribute [local go_sem] eqErr25 neErr25 nilErr25
set_option linter.unusedVariables false
set_option linter.unusedSimpArgs false

/-! ### fettlelaw01_ArithBack: function 5 -/
mutual
def fettlelaw01_ArithBack.j0 : Nat → Int → Int → Bool → Bool → Option (Bool)
  | 0, _, _, _, _ => none
  | k + 1, x0, x1, x5, x47 => if x47 = true then (some false) else (fettlelaw01_ArithBack.l0 k x0 x1 x5 (wrap64 (IntKind.u64.wrap ((IntKind.u64.wrap (x1)) + 64))) 9)
def fettlelaw01_ArithBack.l0 : Nat → Int → Int → Bool → Int → Int → Option (Bool)
  | 0, _, _, _, _, _ => none
  | k + 1, x0, x1, x5, x10, x11 => if x11 ≤ 10 then ((arith_Eval.f k x11 (([x0, x1] : List Int))).bind fun bt135 => ((arith_Eval.f k x11 (([x0, x10] : List Int))).bind fun bt140 => (if bt135.2.isNone = true then (if bt140.2.isNone = true then (if bt135.1 = bt140.1 then (fettlelaw01_ArithBack.l0 k x0 x1 x5 x10 (wrap64 (x11 + 1))) else (some false)) else (some false)) else (some false)))) else ((arith_Eval.f k 11 (([x0, x1] : List Int))).bind fun bt147 => (if x1 = 0 then (if x5 = true then (if bt147.2.isNone = true then (some false) else (some ((bt147.2.getD 0) == 7))) else (some false)) else ((arith_Eval.f k 5 (([bt147.1, x1] : List Int))).bind fun bt153 => (if bt147.2.isNone = true then (if bt153.2.isNone = true then (fettlelaw01_ArithBack.j2 k x0 x1 x5 bt147.1 (wrap64 (x0 - bt153.1)) false) else (fettlelaw01_ArithBack.j2 k x0 x1 x5 bt147.1 (wrap64 (x0 - bt153.1)) true)) else (fettlelaw01_ArithBack.j2 k x0 x1 x5 bt147.1 (wrap64 (x0 - bt153.1)) true)))))
def fettlelaw01_ArithBack.j2 : Nat → Int → Int → Bool → Int → Int → Bool → Option (Bool)
  | 0, _, _, _, _, _, _ => none
  | k + 1, x0, x1, x5, x16, x20, x113 => if x113 = true then (some false) else (if x1 = (-9223372036854775808) then (if x5 = true then (if x16 = 1 then (if x0 = x1 then (some true) else (some (x16 == 0))) else (some (x16 == 0))) else (some false)) else (if x1 < 0 then (if x5 = true then (if x20 < (wrap64 (-x1)) then (if x20 > (wrap64 (-(wrap64 (-x1)))) then (if x20 = 0 then (some true) else (some ((decide (x20 < 0)) == (decide (x0 < 0))))) else (some false)) else (some false)) else (some false)) else (if x5 = true then (if x20 < x1 then (if x20 > (wrap64 (-x1)) then (if x20 = 0 then (some true) else (some ((decide (x20 < 0)) == (decide (x0 < 0))))) else (some false)) else (some false)) else (some false))))
end
def fettlelaw01_ArithBack.f (k : Nat) (a0 : Int) (a1 : Int) : Option (Bool) := (fettlelaw01_up.f k).bind fun t119 => ((arith_Eval.f k 3 (([a0, a1] : List Int))).bind fun bt123 => ((arith_Eval.f k 4 (([bt123.1, a1] : List Int))).bind fun bt128 => (if bt123.2.isNone = true then (if bt128.2.isNone = true then (fettlelaw01_ArithBack.j0 k a0 a1 t119 (bt128.1 != a0)) else (fettlelaw01_ArithBack.j0 k a0 a1 t119 true)) else (fettlelaw01_ArithBack.j0 k a0 a1 t119 true))))
theorem fettlelaw01_ArithBack.mono_l : ∀ k, (∀ y0 y1 y2 y3, LeO (fettlelaw01_ArithBack.j0 k y0 y1 y2 y3) (fettlelaw01_ArithBack.j0 (k + 1) y0 y1 y2 y3)) ∧ (∀ y0 y1 y2 y3 y4, LeO (fettlelaw01_ArithBack.l0 k y0 y1 y2 y3 y4) (fettlelaw01_ArithBack.l0 (k + 1) y0 y1 y2 y3 y4)) ∧ (∀ y0 y1 y2 y3 y4 y5, LeO (fettlelaw01_ArithBack.j2 k y0 y1 y2 y3 y4 y5) (fettlelaw01_ArithBack.j2 (k + 1) y0 y1 y2 y3 y4 y5))
  | 0 => ⟨fun _ _ _ _ r h => by simp [fettlelaw01_ArithBack.j0] at h, fun _ _ _ _ _ r h => by simp [fettlelaw01_ArithBack.l0] at h, fun _ _ _ _ _ _ r h => by simp [fettlelaw01_ArithBack.j2] at h⟩
  | k + 1 => by
    obtain ⟨ih0, ih1, ih2⟩ := fettlelaw01_ArithBack.mono_l k
    refine ⟨?_, ?_, ?_⟩
    · intro y0 y1 y2 y3
      unfold fettlelaw01_ArithBack.j0
      repeat' first
      | (with_reducible exact ih0 _ _ _ _)
      | (with_reducible exact ih1 _ _ _ _ _)
      | (with_reducible exact ih2 _ _ _ _ _ _)
      | (with_reducible exact arith_Eval.mono _ _ _)
      | (with_reducible exact fettlelaw01_up.mono _)
      | (with_reducible exact LeO.refl _)
      | (with_reducible exact LeO.none _)
      | (with_reducible refine LeO.ite ?_ ?_)
      | (with_reducible refine LeO.bind ?_ (fun _ => ?_))
      | exact ih0 _ _ _ _
      | exact ih1 _ _ _ _ _
      | exact ih2 _ _ _ _ _ _
      | exact arith_Eval.mono _ _ _
      | exact fettlelaw01_up.mono _
      | exact LeO.none _
      | refine LeO.ite ?_ ?_
      | refine LeO.bind ?_ (fun _ => ?_)
    · intro y0 y1 y2 y3 y4
      unfold fettlelaw01_ArithBack.l0
      repeat' first
      | (with_reducible exact ih0 _ _ _ _)
      | (with_reducible exact ih1 _ _ _ _ _)
      | (with_reducible exact ih2 _ _ _ _ _ _)
      | (with_reducible exact arith_Eval.mono _ _ _)
      | (with_reducible exact fettlelaw01_up.mono _)
      | (with_reducible exact LeO.refl _)
      | (with_reducible exact LeO.none _)
      | (with_reducible refine LeO.ite ?_ ?_)
      | (with_reducible refine LeO.bind ?_ (fun _ => ?_))
      | exact ih0 _ _ _ _
      | exact ih1 _ _ _ _ _
      | exact ih2 _ _ _ _ _ _
      | exact arith_Eval.mono _ _ _
      | exact fettlelaw01_up.mono _
      | exact LeO.none _
      | refine LeO.ite ?_ ?_
      | refine LeO.bind ?_ (fun _ => ?_)
    · intro y0 y1 y2 y3 y4 y5
      unfold fettlelaw01_ArithBack.j2
      repeat' first
      | (with_reducible exact ih0 _ _ _ _)
      | (with_reducible exact ih1 _ _ _ _ _)
      | (with_reducible exact ih2 _ _ _ _ _ _)
      | (with_reducible exact arith_Eval.mono _ _ _)
      | (with_reducible exact fettlelaw01_up.mono _)
      | (with_reducible exact LeO.refl _)
      | (with_reducible exact LeO.none _)
      | (with_reducible refine LeO.ite ?_ ?_)
      | (with_reducible refine LeO.bind ?_ (fun _ => ?_))
      | exact ih0 _ _ _ _
      | exact ih1 _ _ _ _ _
      | exact ih2 _ _ _ _ _ _
      | exact arith_Eval.mono _ _ _
      | exact fettlelaw01_up.mono _
      | exact LeO.none _
      | refine LeO.ite ?_ ?_
      | refine LeO.bind ?_ (fun _ => ?_)
theorem fettlelaw01_ArithBack.mono : ∀ a0 a1 k, LeO (fettlelaw01_ArithBack.f k a0 a1) (fettlelaw01_ArithBack.f (k + 1) a0 a1) := by
  intro a0 a1 k
  obtain ⟨ih0, ih1, ih2⟩ := fettlelaw01_ArithBack.mono_l k
  unfold fettlelaw01_ArithBack.f
  repeat' first
      | (with_reducible exact ih0 _ _ _ _)
      | (with_reducible exact ih1 _ _ _ _ _)
      | (with_reducible exact ih2 _ _ _ _ _ _)
      | (with_reducible exact arith_Eval.mono _ _ _)
      | (with_reducible exact fettlelaw01_up.mono _)
      | (with_reducible exact LeO.refl _)
      | (with_reducible exact LeO.none _)
      | (with_reducible refine LeO.ite ?_ ?_)
      | (with_reducible refine LeO.bind ?_ (fun _ => ?_))
      | exact ih0 _ _ _ _
      | exact ih1 _ _ _ _ _
      | exact ih2 _ _ _ _ _ _
      | exact arith_Eval.mono _ _ _
      | exact fettlelaw01_up.mono _
      | exact LeO.none _
      | refine LeO.ite ?_ ?_
      | refine LeO.bind ?_ (fun _ => ?_)
set_option maxHeartbeats 8000000 in
set_option maxRecDepth 100000 in
theorem fettlelaw01_ArithBack.calls (k : Nat) (a0 : Int) (a1 : Int) (r : Bool) (w : World) (h : fettlelaw01_ArithBack.f k a0 a1 = some r) :
    Calls Try.prog 5 #[.int .i64 a0, .int .i64 a1] w fun e w' => e = .returned (.bool r) ∧ Below w.heap.size w w' := by
  have hu25 := Try.underlying25
  have hu29 := Try.underlying29
  have HB := Aside0.mk (Below.refl w.heap.size w)
  have H : ((fettlelaw01_up.f k).bind fun t119 => ((arith_Eval.f k 3 (([a0, a1] : List Int))).bind fun bt123 => ((arith_Eval.f k 4 (([bt123.1, a1] : List Int))).bind fun bt128 => (if bt123.2.isNone = true then (if bt128.2.isNone = true then (fettlelaw01_ArithBack.j0 k a0 a1 t119 (bt128.1 != a0)) else (fettlelaw01_ArithBack.j0 k a0 a1 t119 true)) else (fettlelaw01_ArithBack.j0 k a0 a1 t119 true))))) = some r := h
  clear h
  replace H := Option.bind_eq_some_iff.mp H
  obtain ⟨t119, A30, H⟩ := H
  replace H : ((arith_Eval.f k 3 (([a0, a1] : List Int))).bind fun bt123 => ((arith_Eval.f k 4 (([bt123.1, a1] : List Int))).bind fun bt128 => (if bt123.2.isNone = true then (if bt128.2.isNone = true then (fettlelaw01_ArithBack.j0 k a0 a1 t119 (bt128.1 != a0)) else (fettlelaw01_ArithBack.j0 k a0 a1 t119 true)) else (fettlelaw01_ArithBack.j0 k a0 a1 t119 true)))) = some r := H
  have A3 := Aside0.mk A30
  clear A30
  obtain ⟨y120, hy120⟩ : ∃ y_ : List Int, y_ = (([a0, a1] : List Int)) := ⟨_, rfl⟩
  replace H : ((arith_Eval.f k 3 y120).bind fun bt123 => ((arith_Eval.f k 4 (([bt123.1, a1] : List Int))).bind fun bt128 => (if bt123.2.isNone = true then (if bt128.2.isNone = true then (fettlelaw01_ArithBack.j0 k a0 a1 t119 (bt128.1 != a0)) else (fettlelaw01_ArithBack.j0 k a0 a1 t119 true)) else (fettlelaw01_ArithBack.j0 k a0 a1 t119 true)))) = some r := by first | (rw [hy120]; with_reducible exact H) | (have H2_ := (Option.bind_some _ _).symm.trans H; rw [hy120]; with_reducible exact H2_) | (have H2_ := (Option.bind_some _ _).symm.trans H; with_reducible exact H2_) | with_reducible exact H | (rw [hy120]; exact H) | exact H
  have Ny120 := Aside0.mk hy120
  clear hy120
  replace H := Option.bind_eq_some_iff.mp H
  obtain ⟨⟨t123, t124⟩, A40, H⟩ := H
  replace H : ((arith_Eval.f k 4 (([t123, a1] : List Int))).bind fun bt128 => (if t124.isNone = true then (if bt128.2.isNone = true then (fettlelaw01_ArithBack.j0 k a0 a1 t119 (bt128.1 != a0)) else (fettlelaw01_ArithBack.j0 k a0 a1 t119 true)) else (fettlelaw01_ArithBack.j0 k a0 a1 t119 true))) = some r := H
  have A4 := Aside0.mk A40
  clear A40
  obtain ⟨y125, hy125⟩ : ∃ y_ : List Int, y_ = (([t123, a1] : List Int)) := ⟨_, rfl⟩
  replace H : ((arith_Eval.f k 4 y125).bind fun bt128 => (if t124.isNone = true then (if bt128.2.isNone = true then (fettlelaw01_ArithBack.j0 k a0 a1 t119 (bt128.1 != a0)) else (fettlelaw01_ArithBack.j0 k a0 a1 t119 true)) else (fettlelaw01_ArithBack.j0 k a0 a1 t119 true))) = some r := by first | (rw [hy125]; with_reducible exact H) | (have H2_ := (Option.bind_some _ _).symm.trans H; rw [hy125]; with_reducible exact H2_) | (have H2_ := (Option.bind_some _ _).symm.trans H; with_reducible exact H2_) | with_reducible exact H | (rw [hy125]; exact H) | exact H
  have Ny125 := Aside0.mk hy125
  clear hy125
  replace H := Option.bind_eq_some_iff.mp H
  obtain ⟨⟨t128, t129⟩, A50, H⟩ := H
  replace H : (if t124.isNone = true then (if t129.isNone = true then (fettlelaw01_ArithBack.j0 k a0 a1 t119 (t128 != a0)) else (fettlelaw01_ArithBack.j0 k a0 a1 t119 true)) else (fettlelaw01_ArithBack.j0 k a0 a1 t119 true)) = some r := H
  have A5 := Aside0.mk A50
  clear A50
  have HC6 := Aside0.mk H
  clear H
  go_enter Try.func5, Try.ntmps5
  go_upto_region 4 with (first | ((with_reducible refine gate_callee (f := 11) rfl ?_); refine goesL_ (some 22) rfl rfl Try.func11 (by kernel_rfl) rfl #[] rfl (by (try simp only [List.map_toArray, List.map_cons, List.map_nil]); first | done | rfl | (simp only [List.length_drop, List.length_take]; rfl)) ?_; (with_reducible refine (fettlelaw01_up.calls k  t119 _ A3.out).mono ?_); rintro e w7 ⟨rfl, hb⟩; refine ⟨_, rfl, ?_⟩; have n0_ := Aside0.mk (below_step (by repeat (first | (with_reducible first | exact HB.out | apply below_alloc | apply pw_below_drewN | apply below_drew1) | exact HB.out)) hb); clear HB; have HB := n0_; clear n0_; (try clear hb); (try clear hb2); (try clear hk); (try clear hi)) | ((with_reducible refine gate_dst (N := 26) rfl ?_); refine Kd.R_lit (Kd.int .i64) _ 2 ?hg (N := 26) ?hd (xs := ([a0, a1] : List Int)) (inner := [.int .i64 a0, .int .i64 a1]) (ok := fun _ => True) (okp := fun _ => True) ?hr ?hp (fun _ hk => hk) trivial (Below.refl _ _) (Nat.le_refl _) (by simp) ?_; (case hd => rfl); (case hg => rfl); (case hr => first | (go_simp; done) | (go_simp; rfl)); (case hp => exact (Reps.one (show Kd.M (Kd.int .i64) _ _ _ a0 [.int .i64 a0] from rfl) (Reps.one (show Kd.M (Kd.int .i64) _ _ _ a1 [.int .i64 a1] from rfl) (Reps.none _ _)))); intro v121 w8 ho9 hb hg_ hnew_; clear hg_ hnew_; (first | rw [← Ny120.out] at ho9 | (simp only [Int.reduceToNat] at ho9; rw [← Ny120.out] at ho9)); have n0_ := Aside0.mk (Kd.R_lower ho9 (below_size (by repeat (first | (with_reducible first | exact HB.out | apply below_alloc | apply pw_below_drewN | apply below_drew1) | exact HB.out)))); have n1_ := Aside0.mk (below_step (by repeat (first | (with_reducible first | exact HB.out | apply below_alloc | apply pw_below_drewN | apply below_drew1) | exact HB.out)) hb); clear HB; have HO122 := n0_; have HB := n1_; clear n0_ n1_; clear hb ho9; obtain ⟨Ao10, co10, eo10⟩ := Kd.R_slice HO122.out; subst eo10) | ((with_reducible refine gate_callee (f := 12) rfl ?_); refine goesL_ (some 27) rfl rfl Try.func12 (by kernel_rfl) rfl #[.int .i64 3, .slice Ao10 y120.length co10] rfl (by (try simp only [List.map_toArray, List.map_cons, List.map_nil]); first | done | rfl | (simp only [List.length_drop, List.length_take]; rfl)) ?_; (with_reducible refine (arith_Eval.calls k 3 _ _ y120 t123 t124 _ ?side1 ?side2 A4.out).mono ?_); (case side1 => repeat (first | exact (Kd.R_reads' HO122.out).2.2 | (with_reducible refine Kd.C_alloc ?_ _) | (with_reducible refine Kd.C_drewN ?_ _) | (with_reducible refine Kd.C_drew ?_))); (case side2 => exact (Kd.R_reads' HO122.out).2.1); rintro e w' ⟨rfl, ⟨nd, rfl⟩⟩; refine ⟨_, rfl, ?_⟩; (try simp only [errW_none, errW_some])) | ((with_reducible refine gate_dst (N := 33) rfl ?_); refine Kd.R_lit (Kd.int .i64) _ 2 ?hg (N := 33) ?hd (xs := ([t123, a1] : List Int)) (inner := [.int .i64 t123, .int .i64 a1]) (ok := fun _ => True) (okp := fun _ => True) ?hr ?hp (fun _ hk => hk) trivial (Below.refl _ _) (Nat.le_refl _) (by simp) ?_; (case hd => rfl); (case hg => rfl); (case hr => first | (go_simp; done) | (go_simp; rfl)); (case hp => exact (Reps.one (show Kd.M (Kd.int .i64) _ _ _ t123 [.int .i64 t123] from rfl) (Reps.one (show Kd.M (Kd.int .i64) _ _ _ a1 [.int .i64 a1] from rfl) (Reps.none _ _)))); intro v126 w11 ho12 hb hg_ hnew_; clear hg_ hnew_; (first | rw [← Ny125.out] at ho12 | (simp only [Int.reduceToNat] at ho12; rw [← Ny125.out] at ho12)); have n0_ := Aside0.mk (Kd.R_elder' (by (with_reducible repeat (first | apply Kd.R_alloc | apply Kd.R_drewN | apply Kd.R_drew)); exact HO122.out) (Kd.R_base ho12) hb); have n1_ := Aside0.mk (Kd.R_lower (Kd.R_new' ho12 (Kd.R_lt (by (with_reducible repeat (first | apply Kd.R_alloc | apply Kd.R_drewN | apply Kd.R_drew)); exact HO122.out))) (below_size (by repeat (first | (with_reducible first | exact HB.out | apply below_alloc | apply pw_below_drewN | apply below_drew1) | exact HB.out)))); have n2_ := Aside0.mk (below_step (by repeat (first | (with_reducible first | exact HB.out | apply below_alloc | apply pw_below_drewN | apply below_drew1) | exact HB.out)) hb); clear HO122; clear HB; have HO122 := n0_; have HO127 := n1_; have HB := n2_; clear n0_ n1_ n2_; clear hb ho12; obtain ⟨Ao13, co13, eo13⟩ := Kd.R_slice HO127.out; subst eo13) | ((with_reducible refine gate_callee (f := 12) rfl ?_); refine goesL_ (some 34) rfl rfl Try.func12 (by kernel_rfl) rfl #[.int .i64 4, .slice Ao13 y125.length co13] rfl (by (try simp only [List.map_toArray, List.map_cons, List.map_nil]); first | done | rfl | (simp only [List.length_drop, List.length_take]; rfl)) ?_; (with_reducible refine (arith_Eval.calls k 4 _ _ y125 t128 t129 _ ?side1 ?side2 A5.out).mono ?_); (case side1 => repeat (first | exact (Kd.R_reads' HO127.out).2.2 | (with_reducible refine Kd.C_alloc ?_ _) | (with_reducible refine Kd.C_drewN ?_ _) | (with_reducible refine Kd.C_drew ?_))); (case side2 => exact (Kd.R_reads' HO127.out).2.1); rintro e w' ⟨rfl, ⟨nd, rfl⟩⟩; refine ⟨_, rfl, ?_⟩; (try simp only [errW_none, errW_some])))
  (try simp only [Act.put, List.setIfInBounds_toArray, List.set_cons_zero, List.set_cons_succ])
  go_cut [47] (fun v47 wc => ∃ (kq : Nat) (x47_5 : Bool), v47 = .bool x47_5 ∧ Aside0 (fettlelaw01_ArithBack.j0 kq a0 a1 t119 x47_5 = some r) ∧ Aside0 (kq ≤ k) ∧ Aside0 (Below w.heap.size w wc))
  case first =>
    have H := HC6.out
    clear HC6
    rcases t124 with _ | q130
    · have H1 : (if t129.isNone = true then (fettlelaw01_ArithBack.j0 k a0 a1 t119 (t128 != a0)) else (fettlelaw01_ArithBack.j0 k a0 a1 t119 true)) = some r := by rw [if_pos (show (none : Option Int).isNone = true by rfl)] at H; exact H
      clear H
      have H := H1
      clear H1
      try simp only [errW_none, errW_some]
      rcases t129 with _ | q131
      · have H1 : (fettlelaw01_ArithBack.j0 k a0 a1 t119 (t128 != a0)) = some r := by rw [if_pos (show (none : Option Int).isNone = true by rfl)] at H; exact H
        clear H
        have H := H1
        clear H1
        try simp only [errW_none, errW_some]
        have H' := Aside0.mk H
        clear H
        go_wp2
        go_meet
        case rel => exact ⟨_, ((t128 != a0)), (by first | rfl | (simp; done) | (simp [*]; done)), H', ⟨by first | omega | exact Nat.le_refl _⟩, ⟨by repeat (first | (with_reducible first | exact HB.out | apply below_alloc | apply pw_below_drewN | apply below_drew1) | exact HB.out)⟩⟩
      · have H1 : (fettlelaw01_ArithBack.j0 k a0 a1 t119 true) = some r := by rw [if_neg (show ¬ (some q131).isNone = true by simp)] at H; exact H
        clear H
        have H := H1
        clear H1
        try simp only [errW_none, errW_some]
        have H' := Aside0.mk H
        clear H
        go_wp2
        go_meet
        case rel => exact ⟨_, (true), (by first | rfl | (simp; done) | (simp [*]; done)), H', ⟨by first | omega | exact Nat.le_refl _⟩, ⟨by repeat (first | (with_reducible first | exact HB.out | apply below_alloc | apply pw_below_drewN | apply below_drew1) | exact HB.out)⟩⟩
    · have H1 : (fettlelaw01_ArithBack.j0 k a0 a1 t119 true) = some r := by rw [if_neg (show ¬ (some q130).isNone = true by simp)] at H; exact H
      clear H
      have H := H1
      clear H1
      try simp only [errW_none, errW_some]
      have H' := Aside0.mk H
      clear H
      go_wp2
      go_meet
      case rel => exact ⟨_, (true), (by first | rfl | (simp; done) | (simp [*]; done)), H', ⟨by first | omega | exact Nat.le_refl _⟩, ⟨by repeat (first | (with_reducible first | exact HB.out | apply below_alloc | apply pw_below_drewN | apply below_drew1) | exact HB.out)⟩⟩
  case rest =>
    clear HC6
    try clear c1
    try clear q1
    try clear p2
    try clear c5
    try clear c11
    try clear c12
    try clear q13
    try clear q130
    try clear q131
    obtain ⟨kq, x47_5, rfl, HA, HJ5, HB⟩ := hcut
    cases kq with
    | zero => exact absurd HA.out (by simp [fettlelaw01_ArithBack.j0])
    | succ kj5 =>
      have H := HA.out
      clear HA
      simp only [fettlelaw01_ArithBack.j0] at H
      by_cases c14 : x47_5 = true
      · subst c14
        have H1 : (some false) = some r := by rw [if_pos rfl] at H; exact H
        clear H
        have H := H1
        clear H1
        obtain rfl := Option.some.inj H
        go_wp2
        go_ret
        exact ⟨by first | rfl | (simp [errW_none, errW_some] <;> rfl) | (simp [*, errW_none, errW_some] <;> rfl), by repeat (first | (with_reducible first | exact HB.out | apply below_alloc | apply pw_below_drewN | apply below_drew1) | exact HB.out)⟩
      · replace c14 := Bool.eq_false_iff.mpr c14
        subst c14
        have H1 : (fettlelaw01_ArithBack.l0 kj5 a0 a1 t119 (wrap64 (IntKind.u64.wrap ((IntKind.u64.wrap (a1)) + 64))) 9) = some r := by rw [if_neg (show ¬ (false = true) by decide)] at H; exact H
        clear H
        have H := H1
        clear H1
        have H' := Aside0.mk H
        clear H
        go_wp2
        go_loopg [11] kj5 (fun kq v11 w' => ∃ (x11_2 : Int), v11 = .int .i64 x11_2 ∧ Aside0 (fettlelaw01_ArithBack.l0 kq a0 a1 t119 (wrap64 (IntKind.u64.wrap ((IntKind.u64.wrap (a1)) + 64))) x11_2 = some r) ∧ Aside0 (kq ≤ kj5) ∧ Aside0 (Below w.heap.size w w'))
        case atStart => exact ⟨(9), (by first | rfl | (simp; done) | (simp [*]; done)), H', ⟨Nat.le_refl _⟩, ⟨by repeat (first | (with_reducible first | exact HB.out | apply below_alloc | apply pw_below_drewN | apply below_drew1) | exact HB.out)⟩⟩
        case round =>
          clear H'
          try clear c1
          try clear q1
          try clear p2
          try clear c5
          try clear p6
          try clear c11
          try clear c12
          try clear q13
          try clear c14
          try clear p2
          try clear q1
          try clear q13
          try clear q130
          try clear q131
          obtain ⟨x11_2, rfl, HA, HK2, HB⟩ := hrel
          cases gk with
          | zero => exact absurd HA.out (by simp [fettlelaw01_ArithBack.l0])
          | succ k2 =>
            have H := HA.out
            clear HA
            simp only [fettlelaw01_ArithBack.l0] at H
            by_cases c15 : x11_2 ≤ 10
            · rw [if_pos c15] at H
              have c15b0 : decide (x11_2 ≤ 10) = true := decide_eq_true c15
              clear c15
              obtain ⟨y132, hy132⟩ : ∃ y_ : List Int, y_ = (([a0, a1] : List Int)) := ⟨_, rfl⟩
              replace H : ((arith_Eval.f k2 x11_2 y132).bind fun bt135 => ((arith_Eval.f k2 x11_2 (([a0, (wrap64 (IntKind.u64.wrap ((IntKind.u64.wrap (a1)) + 64)))] : List Int))).bind fun bt140 => (if bt135.2.isNone = true then (if bt140.2.isNone = true then (if bt135.1 = bt140.1 then (fettlelaw01_ArithBack.l0 k2 a0 a1 t119 (wrap64 (IntKind.u64.wrap ((IntKind.u64.wrap (a1)) + 64))) (wrap64 (x11_2 + 1))) else (some false)) else (some false)) else (some false)))) = some r := by first | (rw [hy132]; with_reducible exact H) | (have H2_ := (Option.bind_some _ _).symm.trans H; rw [hy132]; with_reducible exact H2_) | (have H2_ := (Option.bind_some _ _).symm.trans H; with_reducible exact H2_) | with_reducible exact H | (rw [hy132]; exact H) | exact H
              have Ny132 := Aside0.mk hy132
              clear hy132
              replace H := Option.bind_eq_some_iff.mp H
              obtain ⟨⟨t135, t136⟩, A160, H⟩ := H
              replace H : ((arith_Eval.f k2 x11_2 (([a0, (wrap64 (IntKind.u64.wrap ((IntKind.u64.wrap (a1)) + 64)))] : List Int))).bind fun bt140 => (if t136.isNone = true then (if bt140.2.isNone = true then (if t135 = bt140.1 then (fettlelaw01_ArithBack.l0 k2 a0 a1 t119 (wrap64 (IntKind.u64.wrap ((IntKind.u64.wrap (a1)) + 64))) (wrap64 (x11_2 + 1))) else (some false)) else (some false)) else (some false))) = some r := H
              have A16 := Aside0.mk A160
              clear A160
              obtain ⟨y137, hy137⟩ : ∃ y_ : List Int, y_ = (([a0, (wrap64 (IntKind.u64.wrap ((IntKind.u64.wrap (a1)) + 64)))] : List Int)) := ⟨_, rfl⟩
              replace H : ((arith_Eval.f k2 x11_2 y137).bind fun bt140 => (if t136.isNone = true then (if bt140.2.isNone = true then (if t135 = bt140.1 then (fettlelaw01_ArithBack.l0 k2 a0 a1 t119 (wrap64 (IntKind.u64.wrap ((IntKind.u64.wrap (a1)) + 64))) (wrap64 (x11_2 + 1))) else (some false)) else (some false)) else (some false))) = some r := by first | (rw [hy137]; with_reducible exact H) | (have H2_ := (Option.bind_some _ _).symm.trans H; rw [hy137]; with_reducible exact H2_) | (have H2_ := (Option.bind_some _ _).symm.trans H; with_reducible exact H2_) | with_reducible exact H | (rw [hy137]; exact H) | exact H
              have Ny137 := Aside0.mk hy137
              clear hy137
              replace H := Option.bind_eq_some_iff.mp H
              obtain ⟨⟨t140, t141⟩, A170, H⟩ := H
              replace H : (if t136.isNone = true then (if t141.isNone = true then (if t135 = t140 then (fettlelaw01_ArithBack.l0 k2 a0 a1 t119 (wrap64 (IntKind.u64.wrap ((IntKind.u64.wrap (a1)) + 64))) (wrap64 (x11_2 + 1))) else (some false)) else (some false)) else (some false)) = some r := H
              have A17 := Aside0.mk A170
              clear A170
              rcases t136 with _ | q142
              · have H1 : (if t141.isNone = true then (if t135 = t140 then (fettlelaw01_ArithBack.l0 k2 a0 a1 t119 (wrap64 (IntKind.u64.wrap ((IntKind.u64.wrap (a1)) + 64))) (wrap64 (x11_2 + 1))) else (some false)) else (some false)) = some r := by rw [if_pos (show (none : Option Int).isNone = true by rfl)] at H; exact H
                clear H
                have H := H1
                clear H1
                try simp only [errW_none, errW_some]
                rcases t141 with _ | q143
                · have H1 : (if t135 = t140 then (fettlelaw01_ArithBack.l0 k2 a0 a1 t119 (wrap64 (IntKind.u64.wrap ((IntKind.u64.wrap (a1)) + 64))) (wrap64 (x11_2 + 1))) else (some false)) = some r := by rw [if_pos (show (none : Option Int).isNone = true by rfl)] at H; exact H
                  clear H
                  have H := H1
                  clear H1
                  try simp only [errW_none, errW_some]
                  by_cases c18 : t135 = t140
                  · rw [if_pos c18] at H
                    have c18b0 : (t135 == t140) = true := beq_iff_eq.mpr c18
                    have c18b1 : (t135 != t140) = false := bne_eq_false_iff_eq.mpr c18
                    clear c18
                    have H' := Aside0.mk H
                    clear H
                    go_wp2_with (first | ((with_reducible refine gate_dst (N := 60) rfl ?_); refine Kd.R_lit (Kd.int .i64) _ 2 ?hg (N := 60) ?hd (xs := ([a0, a1] : List Int)) (inner := [.int .i64 a0, .int .i64 a1]) (ok := fun _ => True) (okp := fun _ => True) ?hr ?hp (fun _ hk => hk) trivial (Below.refl _ _) (Nat.le_refl _) (by simp) ?_; (case hd => rfl); (case hg => rfl); (case hr => first | (go_simp; done) | (go_simp; rfl)); (case hp => exact (Reps.one (show Kd.M (Kd.int .i64) _ _ _ a0 [.int .i64 a0] from rfl) (Reps.one (show Kd.M (Kd.int .i64) _ _ _ a1 [.int .i64 a1] from rfl) (Reps.none _ _)))); intro v133 w19 ho20 hb hg_ hnew_; clear hg_ hnew_; (first | rw [← Ny132.out] at ho20 | (simp only [Int.reduceToNat] at ho20; rw [← Ny132.out] at ho20)); have n0_ := Aside0.mk (Kd.R_lower ho20 (below_size (by repeat (first | (with_reducible first | exact HB.out | apply below_alloc | apply pw_below_drewN | apply below_drew1) | exact HB.out)))); have n1_ := Aside0.mk (below_step (by repeat (first | (with_reducible first | exact HB.out | apply below_alloc | apply pw_below_drewN | apply below_drew1) | exact HB.out)) hb); clear HB; have HO134 := n0_; have HB := n1_; clear n0_ n1_; clear hb ho20; obtain ⟨Ao21, co21, eo21⟩ := Kd.R_slice HO134.out; subst eo21) | ((with_reducible refine gate_callee (f := 12) rfl ?_); refine goesL_ (some 61) rfl rfl Try.func12 (by kernel_rfl) rfl #[.int .i64 x11_2, .slice Ao21 y132.length co21] rfl (by (try simp only [List.map_toArray, List.map_cons, List.map_nil]); first | done | rfl | (simp only [List.length_drop, List.length_take]; rfl)) ?_; (with_reducible refine (arith_Eval.calls k2 x11_2 _ _ y132 t135 none _ ?side1 ?side2 A16.out).mono ?_); (case side1 => repeat (first | exact (Kd.R_reads' HO134.out).2.2 | (with_reducible refine Kd.C_alloc ?_ _) | (with_reducible refine Kd.C_drewN ?_ _) | (with_reducible refine Kd.C_drew ?_))); (case side2 => exact (Kd.R_reads' HO134.out).2.1); rintro e w' ⟨rfl, ⟨nd, rfl⟩⟩; refine ⟨_, rfl, ?_⟩; (try simp only [errW_none, errW_some])) | ((with_reducible refine gate_dst (N := 68) rfl ?_); refine Kd.R_lit (Kd.int .i64) _ 2 ?hg (N := 68) ?hd (xs := ([a0, (wrap64 (IntKind.u64.wrap ((IntKind.u64.wrap (a1)) + 64)))] : List Int)) (inner := [.int .i64 a0, .int .i64 (wrap64 (IntKind.u64.wrap ((IntKind.u64.wrap (a1)) + 64)))]) (ok := fun _ => True) (okp := fun _ => True) ?hr ?hp (fun _ hk => hk) trivial (Below.refl _ _) (Nat.le_refl _) (by simp) ?_; (case hd => rfl); (case hg => rfl); (case hr => first | (go_simp; done) | (go_simp; rfl)); (case hp => exact (Reps.one (show Kd.M (Kd.int .i64) _ _ _ a0 [.int .i64 a0] from rfl) (Reps.one (show Kd.M (Kd.int .i64) _ _ _ (wrap64 (IntKind.u64.wrap ((IntKind.u64.wrap (a1)) + 64))) [.int .i64 (wrap64 (IntKind.u64.wrap ((IntKind.u64.wrap (a1)) + 64)))] from rfl) (Reps.none _ _)))); intro v138 w22 ho23 hb hg_ hnew_; clear hg_ hnew_; (first | rw [← Ny137.out] at ho23 | (simp only [Int.reduceToNat] at ho23; rw [← Ny137.out] at ho23)); have n0_ := Aside0.mk (Kd.R_elder' (by (with_reducible repeat (first | apply Kd.R_alloc | apply Kd.R_drewN | apply Kd.R_drew)); exact HO134.out) (Kd.R_base ho23) hb); have n1_ := Aside0.mk (Kd.R_lower (Kd.R_new' ho23 (Kd.R_lt (by (with_reducible repeat (first | apply Kd.R_alloc | apply Kd.R_drewN | apply Kd.R_drew)); exact HO134.out))) (below_size (by repeat (first | (with_reducible first | exact HB.out | apply below_alloc | apply pw_below_drewN | apply below_drew1) | exact HB.out)))); have n2_ := Aside0.mk (below_step (by repeat (first | (with_reducible first | exact HB.out | apply below_alloc | apply pw_below_drewN | apply below_drew1) | exact HB.out)) hb); clear HO134; clear HB; have HO134 := n0_; have HO139 := n1_; have HB := n2_; clear n0_ n1_ n2_; clear hb ho23; obtain ⟨Ao24, co24, eo24⟩ := Kd.R_slice HO139.out; subst eo24) | ((with_reducible refine gate_callee (f := 12) rfl ?_); refine goesL_ (some 69) rfl rfl Try.func12 (by kernel_rfl) rfl #[.int .i64 x11_2, .slice Ao24 y137.length co24] rfl (by (try simp only [List.map_toArray, List.map_cons, List.map_nil]); first | done | rfl | (simp only [List.length_drop, List.length_take]; rfl)) ?_; (with_reducible refine (arith_Eval.calls k2 x11_2 _ _ y137 t140 none _ ?side1 ?side2 A17.out).mono ?_); (case side1 => repeat (first | exact (Kd.R_reads' HO139.out).2.2 | (with_reducible refine Kd.C_alloc ?_ _) | (with_reducible refine Kd.C_drewN ?_ _) | (with_reducible refine Kd.C_drew ?_))); (case side2 => exact (Kd.R_reads' HO139.out).2.1); rintro e w' ⟨rfl, ⟨nd, rfl⟩⟩; refine ⟨_, rfl, ?_⟩; (try simp only [errW_none, errW_some])))
                    go_roundg k2
                    case measure => have := HJ5.out; have := HK2.out; omega
                    case rel => exact ⟨(wrap64 (x11_2 + 1)), (by first | rfl | (simp; done) | (simp [*]; done)), H', ⟨by have := HJ5.out; have := HK2.out; omega⟩, ⟨by repeat (first | (with_reducible first | exact HB.out | apply below_alloc | apply pw_below_drewN | apply below_drew1) | exact HB.out)⟩⟩
                  · rw [if_neg c18] at H
                    have c18b0 : (t135 == t140) = false := beq_eq_false_iff_ne.mpr c18
                    have c18b1 : (t135 != t140) = true := bne_iff_ne.mpr c18
                    obtain rfl := Option.some.inj H
                    go_wp2_with (first | ((with_reducible refine gate_dst (N := 60) rfl ?_); refine Kd.R_lit (Kd.int .i64) _ 2 ?hg (N := 60) ?hd (xs := ([a0, a1] : List Int)) (inner := [.int .i64 a0, .int .i64 a1]) (ok := fun _ => True) (okp := fun _ => True) ?hr ?hp (fun _ hk => hk) trivial (Below.refl _ _) (Nat.le_refl _) (by simp) ?_; (case hd => rfl); (case hg => rfl); (case hr => first | (go_simp; done) | (go_simp; rfl)); (case hp => exact (Reps.one (show Kd.M (Kd.int .i64) _ _ _ a0 [.int .i64 a0] from rfl) (Reps.one (show Kd.M (Kd.int .i64) _ _ _ a1 [.int .i64 a1] from rfl) (Reps.none _ _)))); intro v133 w25 ho26 hb hg_ hnew_; clear hg_ hnew_; (first | rw [← Ny132.out] at ho26 | (simp only [Int.reduceToNat] at ho26; rw [← Ny132.out] at ho26)); have n0_ := Aside0.mk (Kd.R_lower ho26 (below_size (by repeat (first | (with_reducible first | exact HB.out | apply below_alloc | apply pw_below_drewN | apply below_drew1) | exact HB.out)))); have n1_ := Aside0.mk (below_step (by repeat (first | (with_reducible first | exact HB.out | apply below_alloc | apply pw_below_drewN | apply below_drew1) | exact HB.out)) hb); clear HB; have HO134 := n0_; have HB := n1_; clear n0_ n1_; clear hb ho26; obtain ⟨Ao27, co27, eo27⟩ := Kd.R_slice HO134.out; subst eo27) | ((with_reducible refine gate_callee (f := 12) rfl ?_); refine goesL_ (some 61) rfl rfl Try.func12 (by kernel_rfl) rfl #[.int .i64 x11_2, .slice Ao27 y132.length co27] rfl (by (try simp only [List.map_toArray, List.map_cons, List.map_nil]); first | done | rfl | (simp only [List.length_drop, List.length_take]; rfl)) ?_; (with_reducible refine (arith_Eval.calls k2 x11_2 _ _ y132 t135 none _ ?side1 ?side2 A16.out).mono ?_); (case side1 => repeat (first | exact (Kd.R_reads' HO134.out).2.2 | (with_reducible refine Kd.C_alloc ?_ _) | (with_reducible refine Kd.C_drewN ?_ _) | (with_reducible refine Kd.C_drew ?_))); (case side2 => exact (Kd.R_reads' HO134.out).2.1); rintro e w' ⟨rfl, ⟨nd, rfl⟩⟩; refine ⟨_, rfl, ?_⟩; (try simp only [errW_none, errW_some])) | ((with_reducible refine gate_dst (N := 68) rfl ?_); refine Kd.R_lit (Kd.int .i64) _ 2 ?hg (N := 68) ?hd (xs := ([a0, (wrap64 (IntKind.u64.wrap ((IntKind.u64.wrap (a1)) + 64)))] : List Int)) (inner := [.int .i64 a0, .int .i64 (wrap64 (IntKind.u64.wrap ((IntKind.u64.wrap (a1)) + 64)))]) (ok := fun _ => True) (okp := fun _ => True) ?hr ?hp (fun _ hk => hk) trivial (Below.refl _ _) (Nat.le_refl _) (by simp) ?_; (case hd => rfl); (case hg => rfl); (case hr => first | (go_simp; done) | (go_simp; rfl)); (case hp => exact (Reps.one (show Kd.M (Kd.int .i64) _ _ _ a0 [.int .i64 a0] from rfl) (Reps.one (show Kd.M (Kd.int .i64) _ _ _ (wrap64 (IntKind.u64.wrap ((IntKind.u64.wrap (a1)) + 64))) [.int .i64 (wrap64 (IntKind.u64.wrap ((IntKind.u64.wrap (a1)) + 64)))] from rfl) (Reps.none _ _)))); intro v138 w28 ho29 hb hg_ hnew_; clear hg_ hnew_; (first | rw [← Ny137.out] at ho29 | (simp only [Int.reduceToNat] at ho29; rw [← Ny137.out] at ho29)); have n0_ := Aside0.mk (Kd.R_elder' (by (with_reducible repeat (first | apply Kd.R_alloc | apply Kd.R_drewN | apply Kd.R_drew)); exact HO134.out) (Kd.R_base ho29) hb); have n1_ := Aside0.mk (Kd.R_lower (Kd.R_new' ho29 (Kd.R_lt (by (with_reducible repeat (first | apply Kd.R_alloc | apply Kd.R_drewN | apply Kd.R_drew)); exact HO134.out))) (below_size (by repeat (first | (with_reducible first | exact HB.out | apply below_alloc | apply pw_below_drewN | apply below_drew1) | exact HB.out)))); have n2_ := Aside0.mk (below_step (by repeat (first | (with_reducible first | exact HB.out | apply below_alloc | apply pw_below_drewN | apply below_drew1) | exact HB.out)) hb); clear HO134; clear HB; have HO134 := n0_; have HO139 := n1_; have HB := n2_; clear n0_ n1_ n2_; clear hb ho29; obtain ⟨Ao30, co30, eo30⟩ := Kd.R_slice HO139.out; subst eo30) | ((with_reducible refine gate_callee (f := 12) rfl ?_); refine goesL_ (some 69) rfl rfl Try.func12 (by kernel_rfl) rfl #[.int .i64 x11_2, .slice Ao30 y137.length co30] rfl (by (try simp only [List.map_toArray, List.map_cons, List.map_nil]); first | done | rfl | (simp only [List.length_drop, List.length_take]; rfl)) ?_; (with_reducible refine (arith_Eval.calls k2 x11_2 _ _ y137 t140 none _ ?side1 ?side2 A17.out).mono ?_); (case side1 => repeat (first | exact (Kd.R_reads' HO139.out).2.2 | (with_reducible refine Kd.C_alloc ?_ _) | (with_reducible refine Kd.C_drewN ?_ _) | (with_reducible refine Kd.C_drew ?_))); (case side2 => exact (Kd.R_reads' HO139.out).2.1); rintro e w' ⟨rfl, ⟨nd, rfl⟩⟩; refine ⟨_, rfl, ?_⟩; (try simp only [errW_none, errW_some])))
                    go_ret
                    exact ⟨by first | rfl | (simp [errW_none, errW_some] <;> rfl) | (simp [*, errW_none, errW_some] <;> rfl), by repeat (first | (with_reducible first | exact HB.out | apply below_alloc | apply pw_below_drewN | apply below_drew1) | exact HB.out)⟩
                · have H1 : (some false) = some r := by rw [if_neg (show ¬ (some q143).isNone = true by simp)] at H; exact H
                  clear H
                  have H := H1
                  clear H1
                  try simp only [errW_none, errW_some]
                  obtain rfl := Option.some.inj H
                  go_wp2_with (first | ((with_reducible refine gate_dst (N := 60) rfl ?_); refine Kd.R_lit (Kd.int .i64) _ 2 ?hg (N := 60) ?hd (xs := ([a0, a1] : List Int)) (inner := [.int .i64 a0, .int .i64 a1]) (ok := fun _ => True) (okp := fun _ => True) ?hr ?hp (fun _ hk => hk) trivial (Below.refl _ _) (Nat.le_refl _) (by simp) ?_; (case hd => rfl); (case hg => rfl); (case hr => first | (go_simp; done) | (go_simp; rfl)); (case hp => exact (Reps.one (show Kd.M (Kd.int .i64) _ _ _ a0 [.int .i64 a0] from rfl) (Reps.one (show Kd.M (Kd.int .i64) _ _ _ a1 [.int .i64 a1] from rfl) (Reps.none _ _)))); intro v133 w31 ho32 hb hg_ hnew_; clear hg_ hnew_; (first | rw [← Ny132.out] at ho32 | (simp only [Int.reduceToNat] at ho32; rw [← Ny132.out] at ho32)); have n0_ := Aside0.mk (Kd.R_lower ho32 (below_size (by repeat (first | (with_reducible first | exact HB.out | apply below_alloc | apply pw_below_drewN | apply below_drew1) | exact HB.out)))); have n1_ := Aside0.mk (below_step (by repeat (first | (with_reducible first | exact HB.out | apply below_alloc | apply pw_below_drewN | apply below_drew1) | exact HB.out)) hb); clear HB; have HO134 := n0_; have HB := n1_; clear n0_ n1_; clear hb ho32; obtain ⟨Ao33, co33, eo33⟩ := Kd.R_slice HO134.out; subst eo33) | ((with_reducible refine gate_callee (f := 12) rfl ?_); refine goesL_ (some 61) rfl rfl Try.func12 (by kernel_rfl) rfl #[.int .i64 x11_2, .slice Ao33 y132.length co33] rfl (by (try simp only [List.map_toArray, List.map_cons, List.map_nil]); first | done | rfl | (simp only [List.length_drop, List.length_take]; rfl)) ?_; (with_reducible refine (arith_Eval.calls k2 x11_2 _ _ y132 t135 none _ ?side1 ?side2 A16.out).mono ?_); (case side1 => repeat (first | exact (Kd.R_reads' HO134.out).2.2 | (with_reducible refine Kd.C_alloc ?_ _) | (with_reducible refine Kd.C_drewN ?_ _) | (with_reducible refine Kd.C_drew ?_))); (case side2 => exact (Kd.R_reads' HO134.out).2.1); rintro e w' ⟨rfl, ⟨nd, rfl⟩⟩; refine ⟨_, rfl, ?_⟩; (try simp only [errW_none, errW_some])) | ((with_reducible refine gate_dst (N := 68) rfl ?_); refine Kd.R_lit (Kd.int .i64) _ 2 ?hg (N := 68) ?hd (xs := ([a0, (wrap64 (IntKind.u64.wrap ((IntKind.u64.wrap (a1)) + 64)))] : List Int)) (inner := [.int .i64 a0, .int .i64 (wrap64 (IntKind.u64.wrap ((IntKind.u64.wrap (a1)) + 64)))]) (ok := fun _ => True) (okp := fun _ => True) ?hr ?hp (fun _ hk => hk) trivial (Below.refl _ _) (Nat.le_refl _) (by simp) ?_; (case hd => rfl); (case hg => rfl); (case hr => first | (go_simp; done) | (go_simp; rfl)); (case hp => exact (Reps.one (show Kd.M (Kd.int .i64) _ _ _ a0 [.int .i64 a0] from rfl) (Reps.one (show Kd.M (Kd.int .i64) _ _ _ (wrap64 (IntKind.u64.wrap ((IntKind.u64.wrap (a1)) + 64))) [.int .i64 (wrap64 (IntKind.u64.wrap ((IntKind.u64.wrap (a1)) + 64)))] from rfl) (Reps.none _ _)))); intro v138 w34 ho35 hb hg_ hnew_; clear hg_ hnew_; (first | rw [← Ny137.out] at ho35 | (simp only [Int.reduceToNat] at ho35; rw [← Ny137.out] at ho35)); have n0_ := Aside0.mk (Kd.R_elder' (by (with_reducible repeat (first | apply Kd.R_alloc | apply Kd.R_drewN | apply Kd.R_drew)); exact HO134.out) (Kd.R_base ho35) hb); have n1_ := Aside0.mk (Kd.R_lower (Kd.R_new' ho35 (Kd.R_lt (by (with_reducible repeat (first | apply Kd.R_alloc | apply Kd.R_drewN | apply Kd.R_drew)); exact HO134.out))) (below_size (by repeat (first | (with_reducible first | exact HB.out | apply below_alloc | apply pw_below_drewN | apply below_drew1) | exact HB.out)))); have n2_ := Aside0.mk (below_step (by repeat (first | (with_reducible first | exact HB.out | apply below_alloc | apply pw_below_drewN | apply below_drew1) | exact HB.out)) hb); clear HO134; clear HB; have HO134 := n0_; have HO139 := n1_; have HB := n2_; clear n0_ n1_ n2_; clear hb ho35; obtain ⟨Ao36, co36, eo36⟩ := Kd.R_slice HO139.out; subst eo36) | ((with_reducible refine gate_callee (f := 12) rfl ?_); refine goesL_ (some 69) rfl rfl Try.func12 (by kernel_rfl) rfl #[.int .i64 x11_2, .slice Ao36 y137.length co36] rfl (by (try simp only [List.map_toArray, List.map_cons, List.map_nil]); first | done | rfl | (simp only [List.length_drop, List.length_take]; rfl)) ?_; (with_reducible refine (arith_Eval.calls k2 x11_2 _ _ y137 t140 (some q143) _ ?side1 ?side2 A17.out).mono ?_); (case side1 => repeat (first | exact (Kd.R_reads' HO139.out).2.2 | (with_reducible refine Kd.C_alloc ?_ _) | (with_reducible refine Kd.C_drewN ?_ _) | (with_reducible refine Kd.C_drew ?_))); (case side2 => exact (Kd.R_reads' HO139.out).2.1); rintro e w' ⟨rfl, ⟨nd, rfl⟩⟩; refine ⟨_, rfl, ?_⟩; (try simp only [errW_none, errW_some])))
                  go_ret
                  exact ⟨by first | rfl | (simp [errW_none, errW_some] <;> rfl) | (simp [*, errW_none, errW_some] <;> rfl), by repeat (first | (with_reducible first | exact HB.out | apply below_alloc | apply pw_below_drewN | apply below_drew1) | exact HB.out)⟩
              · have H1 : (some false) = some r := by rw [if_neg (show ¬ (some q142).isNone = true by simp)] at H; exact H
                clear H
                have H := H1
                clear H1
                try simp only [errW_none, errW_some]
                obtain rfl := Option.some.inj H
                go_wp2_with (first | ((with_reducible refine gate_dst (N := 60) rfl ?_); refine Kd.R_lit (Kd.int .i64) _ 2 ?hg (N := 60) ?hd (xs := ([a0, a1] : List Int)) (inner := [.int .i64 a0, .int .i64 a1]) (ok := fun _ => True) (okp := fun _ => True) ?hr ?hp (fun _ hk => hk) trivial (Below.refl _ _) (Nat.le_refl _) (by simp) ?_; (case hd => rfl); (case hg => rfl); (case hr => first | (go_simp; done) | (go_simp; rfl)); (case hp => exact (Reps.one (show Kd.M (Kd.int .i64) _ _ _ a0 [.int .i64 a0] from rfl) (Reps.one (show Kd.M (Kd.int .i64) _ _ _ a1 [.int .i64 a1] from rfl) (Reps.none _ _)))); intro v133 w37 ho38 hb hg_ hnew_; clear hg_ hnew_; (first | rw [← Ny132.out] at ho38 | (simp only [Int.reduceToNat] at ho38; rw [← Ny132.out] at ho38)); have n0_ := Aside0.mk (Kd.R_lower ho38 (below_size (by repeat (first | (with_reducible first | exact HB.out | apply below_alloc | apply pw_below_drewN | apply below_drew1) | exact HB.out)))); have n1_ := Aside0.mk (below_step (by repeat (first | (with_reducible first | exact HB.out | apply below_alloc | apply pw_below_drewN | apply below_drew1) | exact HB.out)) hb); clear HB; have HO134 := n0_; have HB := n1_; clear n0_ n1_; clear hb ho38; obtain ⟨Ao39, co39, eo39⟩ := Kd.R_slice HO134.out; subst eo39) | ((with_reducible refine gate_callee (f := 12) rfl ?_); refine goesL_ (some 61) rfl rfl Try.func12 (by kernel_rfl) rfl #[.int .i64 x11_2, .slice Ao39 y132.length co39] rfl (by (try simp only [List.map_toArray, List.map_cons, List.map_nil]); first | done | rfl | (simp only [List.length_drop, List.length_take]; rfl)) ?_; (with_reducible refine (arith_Eval.calls k2 x11_2 _ _ y132 t135 (some q142) _ ?side1 ?side2 A16.out).mono ?_); (case side1 => repeat (first | exact (Kd.R_reads' HO134.out).2.2 | (with_reducible refine Kd.C_alloc ?_ _) | (with_reducible refine Kd.C_drewN ?_ _) | (with_reducible refine Kd.C_drew ?_))); (case side2 => exact (Kd.R_reads' HO134.out).2.1); rintro e w' ⟨rfl, ⟨nd, rfl⟩⟩; refine ⟨_, rfl, ?_⟩; (try simp only [errW_none, errW_some])) | ((with_reducible refine gate_dst (N := 68) rfl ?_); refine Kd.R_lit (Kd.int .i64) _ 2 ?hg (N := 68) ?hd (xs := ([a0, (wrap64 (IntKind.u64.wrap ((IntKind.u64.wrap (a1)) + 64)))] : List Int)) (inner := [.int .i64 a0, .int .i64 (wrap64 (IntKind.u64.wrap ((IntKind.u64.wrap (a1)) + 64)))]) (ok := fun _ => True) (okp := fun _ => True) ?hr ?hp (fun _ hk => hk) trivial (Below.refl _ _) (Nat.le_refl _) (by simp) ?_; (case hd => rfl); (case hg => rfl); (case hr => first | (go_simp; done) | (go_simp; rfl)); (case hp => exact (Reps.one (show Kd.M (Kd.int .i64) _ _ _ a0 [.int .i64 a0] from rfl) (Reps.one (show Kd.M (Kd.int .i64) _ _ _ (wrap64 (IntKind.u64.wrap ((IntKind.u64.wrap (a1)) + 64))) [.int .i64 (wrap64 (IntKind.u64.wrap ((IntKind.u64.wrap (a1)) + 64)))] from rfl) (Reps.none _ _)))); intro v138 w40 ho41 hb hg_ hnew_; clear hg_ hnew_; (first | rw [← Ny137.out] at ho41 | (simp only [Int.reduceToNat] at ho41; rw [← Ny137.out] at ho41)); have n0_ := Aside0.mk (Kd.R_elder' (by (with_reducible repeat (first | apply Kd.R_alloc | apply Kd.R_drewN | apply Kd.R_drew)); exact HO134.out) (Kd.R_base ho41) hb); have n1_ := Aside0.mk (Kd.R_lower (Kd.R_new' ho41 (Kd.R_lt (by (with_reducible repeat (first | apply Kd.R_alloc | apply Kd.R_drewN | apply Kd.R_drew)); exact HO134.out))) (below_size (by repeat (first | (with_reducible first | exact HB.out | apply below_alloc | apply pw_below_drewN | apply below_drew1) | exact HB.out)))); have n2_ := Aside0.mk (below_step (by repeat (first | (with_reducible first | exact HB.out | apply below_alloc | apply pw_below_drewN | apply below_drew1) | exact HB.out)) hb); clear HO134; clear HB; have HO134 := n0_; have HO139 := n1_; have HB := n2_; clear n0_ n1_ n2_; clear hb ho41; obtain ⟨Ao42, co42, eo42⟩ := Kd.R_slice HO139.out; subst eo42) | ((with_reducible refine gate_callee (f := 12) rfl ?_); refine goesL_ (some 69) rfl rfl Try.func12 (by kernel_rfl) rfl #[.int .i64 x11_2, .slice Ao42 y137.length co42] rfl (by (try simp only [List.map_toArray, List.map_cons, List.map_nil]); first | done | rfl | (simp only [List.length_drop, List.length_take]; rfl)) ?_; (with_reducible refine (arith_Eval.calls k2 x11_2 _ _ y137 t140 t141 _ ?side1 ?side2 A17.out).mono ?_); (case side1 => repeat (first | exact (Kd.R_reads' HO139.out).2.2 | (with_reducible refine Kd.C_alloc ?_ _) | (with_reducible refine Kd.C_drewN ?_ _) | (with_reducible refine Kd.C_drew ?_))); (case side2 => exact (Kd.R_reads' HO139.out).2.1); rintro e w' ⟨rfl, ⟨nd, rfl⟩⟩; refine ⟨_, rfl, ?_⟩; (try simp only [errW_none, errW_some])))
                go_ret
                exact ⟨by first | rfl | (simp [errW_none, errW_some] <;> rfl) | (simp [*, errW_none, errW_some] <;> rfl), by repeat (first | (with_reducible first | exact HB.out | apply below_alloc | apply pw_below_drewN | apply below_drew1) | exact HB.out)⟩
            · rw [if_neg c15] at H
              have c15b0 : decide (x11_2 ≤ 10) = false := decide_eq_false c15
              clear c15
              obtain ⟨y144, hy144⟩ : ∃ y_ : List Int, y_ = (([a0, a1] : List Int)) := ⟨_, rfl⟩
              replace H : ((arith_Eval.f k2 11 y144).bind fun bt147 => (if a1 = 0 then (if t119 = true then (if bt147.2.isNone = true then (some false) else (some ((bt147.2.getD 0) == 7))) else (some false)) else ((arith_Eval.f k2 5 (([bt147.1, a1] : List Int))).bind fun bt153 => (if bt147.2.isNone = true then (if bt153.2.isNone = true then (fettlelaw01_ArithBack.j2 k2 a0 a1 t119 bt147.1 (wrap64 (a0 - bt153.1)) false) else (fettlelaw01_ArithBack.j2 k2 a0 a1 t119 bt147.1 (wrap64 (a0 - bt153.1)) true)) else (fettlelaw01_ArithBack.j2 k2 a0 a1 t119 bt147.1 (wrap64 (a0 - bt153.1)) true))))) = some r := by first | (rw [hy144]; with_reducible exact H) | (have H2_ := (Option.bind_some _ _).symm.trans H; rw [hy144]; with_reducible exact H2_) | (have H2_ := (Option.bind_some _ _).symm.trans H; with_reducible exact H2_) | with_reducible exact H | (rw [hy144]; exact H) | exact H
              have Ny144 := Aside0.mk hy144
              clear hy144
              replace H := Option.bind_eq_some_iff.mp H
              obtain ⟨⟨t147, t148⟩, A430, H⟩ := H
              replace H : (if a1 = 0 then (if t119 = true then (if t148.isNone = true then (some false) else (some ((t148.getD 0) == 7))) else (some false)) else ((arith_Eval.f k2 5 (([t147, a1] : List Int))).bind fun bt153 => (if t148.isNone = true then (if bt153.2.isNone = true then (fettlelaw01_ArithBack.j2 k2 a0 a1 t119 t147 (wrap64 (a0 - bt153.1)) false) else (fettlelaw01_ArithBack.j2 k2 a0 a1 t119 t147 (wrap64 (a0 - bt153.1)) true)) else (fettlelaw01_ArithBack.j2 k2 a0 a1 t119 t147 (wrap64 (a0 - bt153.1)) true)))) = some r := H
              have A43 := Aside0.mk A430
              clear A430
              by_cases c44 : a1 = 0
              · rw [if_pos c44] at H
                have c44b0 : (a1 == 0) = true := beq_iff_eq.mpr c44
                have c44b1 : (a1 != 0) = false := bne_eq_false_iff_eq.mpr c44
                clear c44
                by_cases c45 : t119 = true
                · subst c45
                  have H1 : (if t148.isNone = true then (some false) else (some ((t148.getD 0) == 7))) = some r := by rw [if_pos rfl] at H; exact H
                  clear H
                  have H := H1
                  clear H1
                  rcases t148 with _ | q149
                  · have H1 : (some false) = some r := by rw [if_pos (show (none : Option Int).isNone = true by rfl)] at H; exact H
                    clear H
                    have H := H1
                    clear H1
                    try simp only [errW_none, errW_some]
                    obtain rfl := Option.some.inj H
                    go_wp2_with (first | ((with_reducible refine gate_dst (N := 86) rfl ?_); refine Kd.R_lit (Kd.int .i64) _ 2 ?hg (N := 86) ?hd (xs := ([a0, a1] : List Int)) (inner := [.int .i64 a0, .int .i64 a1]) (ok := fun _ => True) (okp := fun _ => True) ?hr ?hp (fun _ hk => hk) trivial (Below.refl _ _) (Nat.le_refl _) (by simp) ?_; (case hd => rfl); (case hg => rfl); (case hr => first | (go_simp; done) | (go_simp; rfl)); (case hp => exact (Reps.one (show Kd.M (Kd.int .i64) _ _ _ a0 [.int .i64 a0] from rfl) (Reps.one (show Kd.M (Kd.int .i64) _ _ _ a1 [.int .i64 a1] from rfl) (Reps.none _ _)))); intro v145 w46 ho47 hb hg_ hnew_; clear hg_ hnew_; (first | rw [← Ny144.out] at ho47 | (simp only [Int.reduceToNat] at ho47; rw [← Ny144.out] at ho47)); have n0_ := Aside0.mk (Kd.R_lower ho47 (below_size (by repeat (first | (with_reducible first | exact HB.out | apply below_alloc | apply pw_below_drewN | apply below_drew1) | exact HB.out)))); have n1_ := Aside0.mk (below_step (by repeat (first | (with_reducible first | exact HB.out | apply below_alloc | apply pw_below_drewN | apply below_drew1) | exact HB.out)) hb); clear HB; have HO146 := n0_; have HB := n1_; clear n0_ n1_; clear hb ho47; obtain ⟨Ao48, co48, eo48⟩ := Kd.R_slice HO146.out; subst eo48) | ((with_reducible refine gate_callee (f := 12) rfl ?_); refine goesL_ (some 87) rfl rfl Try.func12 (by kernel_rfl) rfl #[.int .i64 11, .slice Ao48 y144.length co48] rfl (by (try simp only [List.map_toArray, List.map_cons, List.map_nil]); first | done | rfl | (simp only [List.length_drop, List.length_take]; rfl)) ?_; (with_reducible refine (arith_Eval.calls k2 11 _ _ y144 t147 none _ ?side1 ?side2 A43.out).mono ?_); (case side1 => repeat (first | exact (Kd.R_reads' HO146.out).2.2 | (with_reducible refine Kd.C_alloc ?_ _) | (with_reducible refine Kd.C_drewN ?_ _) | (with_reducible refine Kd.C_drew ?_))); (case side2 => exact (Kd.R_reads' HO146.out).2.1); rintro e w' ⟨rfl, ⟨nd, rfl⟩⟩; refine ⟨_, rfl, ?_⟩; (try simp only [errW_none, errW_some])))
                    go_ret
                    exact ⟨by first | rfl | (simp [errW_none, errW_some] <;> rfl) | (simp [*, errW_none, errW_some] <;> rfl), by repeat (first | (with_reducible first | exact HB.out | apply below_alloc | apply pw_below_drewN | apply below_drew1) | exact HB.out)⟩
                  · have H1 : (some (q149 == 7)) = some r := by rw [if_neg (show ¬ (some q149).isNone = true by simp)] at H; exact H
                    clear H
                    have H := H1
                    clear H1
                    try simp only [errW_none, errW_some]
                    obtain rfl := Option.some.inj H
                    go_wp2_with (first | ((with_reducible refine gate_dst (N := 86) rfl ?_); refine Kd.R_lit (Kd.int .i64) _ 2 ?hg (N := 86) ?hd (xs := ([a0, a1] : List Int)) (inner := [.int .i64 a0, .int .i64 a1]) (ok := fun _ => True) (okp := fun _ => True) ?hr ?hp (fun _ hk => hk) trivial (Below.refl _ _) (Nat.le_refl _) (by simp) ?_; (case hd => rfl); (case hg => rfl); (case hr => first | (go_simp; done) | (go_simp; rfl)); (case hp => exact (Reps.one (show Kd.M (Kd.int .i64) _ _ _ a0 [.int .i64 a0] from rfl) (Reps.one (show Kd.M (Kd.int .i64) _ _ _ a1 [.int .i64 a1] from rfl) (Reps.none _ _)))); intro v145 w49 ho50 hb hg_ hnew_; clear hg_ hnew_; (first | rw [← Ny144.out] at ho50 | (simp only [Int.reduceToNat] at ho50; rw [← Ny144.out] at ho50)); have n0_ := Aside0.mk (Kd.R_lower ho50 (below_size (by repeat (first | (with_reducible first | exact HB.out | apply below_alloc | apply pw_below_drewN | apply below_drew1) | exact HB.out)))); have n1_ := Aside0.mk (below_step (by repeat (first | (with_reducible first | exact HB.out | apply below_alloc | apply pw_below_drewN | apply below_drew1) | exact HB.out)) hb); clear HB; have HO146 := n0_; have HB := n1_; clear n0_ n1_; clear hb ho50; obtain ⟨Ao51, co51, eo51⟩ := Kd.R_slice HO146.out; subst eo51) | ((with_reducible refine gate_callee (f := 12) rfl ?_); refine goesL_ (some 87) rfl rfl Try.func12 (by kernel_rfl) rfl #[.int .i64 11, .slice Ao51 y144.length co51] rfl (by (try simp only [List.map_toArray, List.map_cons, List.map_nil]); first | done | rfl | (simp only [List.length_drop, List.length_take]; rfl)) ?_; (with_reducible refine (arith_Eval.calls k2 11 _ _ y144 t147 (some q149) _ ?side1 ?side2 A43.out).mono ?_); (case side1 => repeat (first | exact (Kd.R_reads' HO146.out).2.2 | (with_reducible refine Kd.C_alloc ?_ _) | (with_reducible refine Kd.C_drewN ?_ _) | (with_reducible refine Kd.C_drew ?_))); (case side2 => exact (Kd.R_reads' HO146.out).2.1); rintro e w' ⟨rfl, ⟨nd, rfl⟩⟩; refine ⟨_, rfl, ?_⟩; (try simp only [errW_none, errW_some])))
                    go_ret
                    exact ⟨by first | rfl | (simp [errW_none, errW_some] <;> rfl) | (simp [*, errW_none, errW_some] <;> rfl), by repeat (first | (with_reducible first | exact HB.out | apply below_alloc | apply pw_below_drewN | apply below_drew1) | exact HB.out)⟩
                · replace c45 := Bool.eq_false_iff.mpr c45
                  subst c45
                  have H1 : (some false) = some r := by rw [if_neg (show ¬ (false = true) by decide)] at H; exact H
                  clear H
                  have H := H1
                  clear H1
                  obtain rfl := Option.some.inj H
                  go_wp2_with (first | ((with_reducible refine gate_dst (N := 86) rfl ?_); refine Kd.R_lit (Kd.int .i64) _ 2 ?hg (N := 86) ?hd (xs := ([a0, a1] : List Int)) (inner := [.int .i64 a0, .int .i64 a1]) (ok := fun _ => True) (okp := fun _ => True) ?hr ?hp (fun _ hk => hk) trivial (Below.refl _ _) (Nat.le_refl _) (by simp) ?_; (case hd => rfl); (case hg => rfl); (case hr => first | (go_simp; done) | (go_simp; rfl)); (case hp => exact (Reps.one (show Kd.M (Kd.int .i64) _ _ _ a0 [.int .i64 a0] from rfl) (Reps.one (show Kd.M (Kd.int .i64) _ _ _ a1 [.int .i64 a1] from rfl) (Reps.none _ _)))); intro v145 w52 ho53 hb hg_ hnew_; clear hg_ hnew_; (first | rw [← Ny144.out] at ho53 | (simp only [Int.reduceToNat] at ho53; rw [← Ny144.out] at ho53)); have n0_ := Aside0.mk (Kd.R_lower ho53 (below_size (by repeat (first | (with_reducible first | exact HB.out | apply below_alloc | apply pw_below_drewN | apply below_drew1) | exact HB.out)))); have n1_ := Aside0.mk (below_step (by repeat (first | (with_reducible first | exact HB.out | apply below_alloc | apply pw_below_drewN | apply below_drew1) | exact HB.out)) hb); clear HB; have HO146 := n0_; have HB := n1_; clear n0_ n1_; clear hb ho53; obtain ⟨Ao54, co54, eo54⟩ := Kd.R_slice HO146.out; subst eo54) | ((with_reducible refine gate_callee (f := 12) rfl ?_); refine goesL_ (some 87) rfl rfl Try.func12 (by kernel_rfl) rfl #[.int .i64 11, .slice Ao54 y144.length co54] rfl (by (try simp only [List.map_toArray, List.map_cons, List.map_nil]); first | done | rfl | (simp only [List.length_drop, List.length_take]; rfl)) ?_; (with_reducible refine (arith_Eval.calls k2 11 _ _ y144 t147 t148 _ ?side1 ?side2 A43.out).mono ?_); (case side1 => repeat (first | exact (Kd.R_reads' HO146.out).2.2 | (with_reducible refine Kd.C_alloc ?_ _) | (with_reducible refine Kd.C_drewN ?_ _) | (with_reducible refine Kd.C_drew ?_))); (case side2 => exact (Kd.R_reads' HO146.out).2.1); rintro e w' ⟨rfl, ⟨nd, rfl⟩⟩; refine ⟨_, rfl, ?_⟩; (try simp only [errW_none, errW_some])))
                  go_ret
                  exact ⟨by first | rfl | (simp [errW_none, errW_some] <;> rfl) | (simp [*, errW_none, errW_some] <;> rfl), by repeat (first | (with_reducible first | exact HB.out | apply below_alloc | apply pw_below_drewN | apply below_drew1) | exact HB.out)⟩
              · rw [if_neg c44] at H
                have c44b0 : (a1 == 0) = false := beq_eq_false_iff_ne.mpr c44
                have c44b1 : (a1 != 0) = true := bne_iff_ne.mpr c44
                obtain ⟨y150, hy150⟩ : ∃ y_ : List Int, y_ = (([t147, a1] : List Int)) := ⟨_, rfl⟩
                replace H : ((arith_Eval.f k2 5 y150).bind fun bt153 => (if t148.isNone = true then (if bt153.2.isNone = true then (fettlelaw01_ArithBack.j2 k2 a0 a1 t119 t147 (wrap64 (a0 - bt153.1)) false) else (fettlelaw01_ArithBack.j2 k2 a0 a1 t119 t147 (wrap64 (a0 - bt153.1)) true)) else (fettlelaw01_ArithBack.j2 k2 a0 a1 t119 t147 (wrap64 (a0 - bt153.1)) true))) = some r := by first | (rw [hy150]; with_reducible exact H) | (have H2_ := (Option.bind_some _ _).symm.trans H; rw [hy150]; with_reducible exact H2_) | (have H2_ := (Option.bind_some _ _).symm.trans H; with_reducible exact H2_) | with_reducible exact H | (rw [hy150]; exact H) | exact H
                have Ny150 := Aside0.mk hy150
                clear hy150
                replace H := Option.bind_eq_some_iff.mp H
                obtain ⟨⟨t153, t154⟩, A550, H⟩ := H
                replace H : (if t148.isNone = true then (if t154.isNone = true then (fettlelaw01_ArithBack.j2 k2 a0 a1 t119 t147 (wrap64 (a0 - t153)) false) else (fettlelaw01_ArithBack.j2 k2 a0 a1 t119 t147 (wrap64 (a0 - t153)) true)) else (fettlelaw01_ArithBack.j2 k2 a0 a1 t119 t147 (wrap64 (a0 - t153)) true)) = some r := H
                have A55 := Aside0.mk A550
                clear A550
                have HC56 := Aside0.mk H
                clear H
                go_upto_region 19 with (first | ((with_reducible refine gate_dst (N := 86) rfl ?_); refine Kd.R_lit (Kd.int .i64) _ 2 ?hg (N := 86) ?hd (xs := ([a0, a1] : List Int)) (inner := [.int .i64 a0, .int .i64 a1]) (ok := fun _ => True) (okp := fun _ => True) ?hr ?hp (fun _ hk => hk) trivial (Below.refl _ _) (Nat.le_refl _) (by simp) ?_; (case hd => rfl); (case hg => rfl); (case hr => first | (go_simp; done) | (go_simp; rfl)); (case hp => exact (Reps.one (show Kd.M (Kd.int .i64) _ _ _ a0 [.int .i64 a0] from rfl) (Reps.one (show Kd.M (Kd.int .i64) _ _ _ a1 [.int .i64 a1] from rfl) (Reps.none _ _)))); intro v145 w57 ho58 hb hg_ hnew_; clear hg_ hnew_; (first | rw [← Ny144.out] at ho58 | (simp only [Int.reduceToNat] at ho58; rw [← Ny144.out] at ho58)); have n0_ := Aside0.mk (Kd.R_lower ho58 (below_size (by repeat (first | (with_reducible first | exact HB.out | apply below_alloc | apply pw_below_drewN | apply below_drew1) | exact HB.out)))); have n1_ := Aside0.mk (below_step (by repeat (first | (with_reducible first | exact HB.out | apply below_alloc | apply pw_below_drewN | apply below_drew1) | exact HB.out)) hb); clear HB; have HO146 := n0_; have HB := n1_; clear n0_ n1_; clear hb ho58; obtain ⟨Ao59, co59, eo59⟩ := Kd.R_slice HO146.out; subst eo59) | ((with_reducible refine gate_callee (f := 12) rfl ?_); refine goesL_ (some 87) rfl rfl Try.func12 (by kernel_rfl) rfl #[.int .i64 11, .slice Ao59 y144.length co59] rfl (by (try simp only [List.map_toArray, List.map_cons, List.map_nil]); first | done | rfl | (simp only [List.length_drop, List.length_take]; rfl)) ?_; (with_reducible refine (arith_Eval.calls k2 11 _ _ y144 t147 t148 _ ?side1 ?side2 A43.out).mono ?_); (case side1 => repeat (first | exact (Kd.R_reads' HO146.out).2.2 | (with_reducible refine Kd.C_alloc ?_ _) | (with_reducible refine Kd.C_drewN ?_ _) | (with_reducible refine Kd.C_drew ?_))); (case side2 => exact (Kd.R_reads' HO146.out).2.1); rintro e w' ⟨rfl, ⟨nd, rfl⟩⟩; refine ⟨_, rfl, ?_⟩; (try simp only [errW_none, errW_some])) | ((with_reducible refine gate_dst (N := 101) rfl ?_); refine Kd.R_lit (Kd.int .i64) _ 2 ?hg (N := 101) ?hd (xs := ([t147, a1] : List Int)) (inner := [.int .i64 t147, .int .i64 a1]) (ok := fun _ => True) (okp := fun _ => True) ?hr ?hp (fun _ hk => hk) trivial (Below.refl _ _) (Nat.le_refl _) (by simp) ?_; (case hd => rfl); (case hg => rfl); (case hr => first | (go_simp; done) | (go_simp; rfl)); (case hp => exact (Reps.one (show Kd.M (Kd.int .i64) _ _ _ t147 [.int .i64 t147] from rfl) (Reps.one (show Kd.M (Kd.int .i64) _ _ _ a1 [.int .i64 a1] from rfl) (Reps.none _ _)))); intro v151 w60 ho61 hb hg_ hnew_; clear hg_ hnew_; (first | rw [← Ny150.out] at ho61 | (simp only [Int.reduceToNat] at ho61; rw [← Ny150.out] at ho61)); have n0_ := Aside0.mk (Kd.R_elder' (by (with_reducible repeat (first | apply Kd.R_alloc | apply Kd.R_drewN | apply Kd.R_drew)); exact HO146.out) (Kd.R_base ho61) hb); have n1_ := Aside0.mk (Kd.R_lower (Kd.R_new' ho61 (Kd.R_lt (by (with_reducible repeat (first | apply Kd.R_alloc | apply Kd.R_drewN | apply Kd.R_drew)); exact HO146.out))) (below_size (by repeat (first | (with_reducible first | exact HB.out | apply below_alloc | apply pw_below_drewN | apply below_drew1) | exact HB.out)))); have n2_ := Aside0.mk (below_step (by repeat (first | (with_reducible first | exact HB.out | apply below_alloc | apply pw_below_drewN | apply below_drew1) | exact HB.out)) hb); clear HO146; clear HB; have HO146 := n0_; have HO152 := n1_; have HB := n2_; clear n0_ n1_ n2_; clear hb ho61; obtain ⟨Ao62, co62, eo62⟩ := Kd.R_slice HO152.out; subst eo62) | ((with_reducible refine gate_callee (f := 12) rfl ?_); refine goesL_ (some 102) rfl rfl Try.func12 (by kernel_rfl) rfl #[.int .i64 5, .slice Ao62 y150.length co62] rfl (by (try simp only [List.map_toArray, List.map_cons, List.map_nil]); first | done | rfl | (simp only [List.length_drop, List.length_take]; rfl)) ?_; (with_reducible refine (arith_Eval.calls k2 5 _ _ y150 t153 t154 _ ?side1 ?side2 A55.out).mono ?_); (case side1 => repeat (first | exact (Kd.R_reads' HO152.out).2.2 | (with_reducible refine Kd.C_alloc ?_ _) | (with_reducible refine Kd.C_drewN ?_ _) | (with_reducible refine Kd.C_drew ?_))); (case side2 => exact (Kd.R_reads' HO152.out).2.1); rintro e w' ⟨rfl, ⟨nd, rfl⟩⟩; refine ⟨_, rfl, ?_⟩; (try simp only [errW_none, errW_some])))
                (try simp only [Act.put, List.setIfInBounds_toArray, List.set_cons_zero, List.set_cons_succ])
                go_cut [113] (fun v113 wc => ∃ (kq : Nat) (x113_55 : Bool), v113 = .bool x113_55 ∧ Aside0 (fettlelaw01_ArithBack.j2 kq a0 a1 t119 t147 (wrap64 (a0 - t153)) x113_55 = some r) ∧ Aside0 (kq ≤ k2) ∧ Aside0 (Below w.heap.size w wc))
                case first =>
                  have H := HC56.out
                  clear HC56
                  rcases t148 with _ | q155
                  · have H1 : (if t154.isNone = true then (fettlelaw01_ArithBack.j2 k2 a0 a1 t119 t147 (wrap64 (a0 - t153)) false) else (fettlelaw01_ArithBack.j2 k2 a0 a1 t119 t147 (wrap64 (a0 - t153)) true)) = some r := by rw [if_pos (show (none : Option Int).isNone = true by rfl)] at H; exact H
                    clear H
                    have H := H1
                    clear H1
                    try simp only [errW_none, errW_some]
                    rcases t154 with _ | q156
                    · have H1 : (fettlelaw01_ArithBack.j2 k2 a0 a1 t119 t147 (wrap64 (a0 - t153)) false) = some r := by rw [if_pos (show (none : Option Int).isNone = true by rfl)] at H; exact H
                      clear H
                      have H := H1
                      clear H1
                      try simp only [errW_none, errW_some]
                      have H' := Aside0.mk H
                      clear H
                      go_wp2
                      go_meet
                      case rel => exact ⟨_, (false), (by first | rfl | (simp; done) | (simp [*]; done)), H', ⟨by have := HJ5.out; have := HK2.out; first | omega | exact Nat.le_refl _⟩, ⟨by repeat (first | (with_reducible first | exact HB.out | apply below_alloc | apply pw_below_drewN | apply below_drew1) | exact HB.out)⟩⟩
                    · have H1 : (fettlelaw01_ArithBack.j2 k2 a0 a1 t119 t147 (wrap64 (a0 - t153)) true) = some r := by rw [if_neg (show ¬ (some q156).isNone = true by simp)] at H; exact H
                      clear H
                      have H := H1
                      clear H1
                      try simp only [errW_none, errW_some]
                      have H' := Aside0.mk H
                      clear H
                      go_wp2
                      go_meet
                      case rel => exact ⟨_, (true), (by first | rfl | (simp; done) | (simp [*]; done)), H', ⟨by have := HJ5.out; have := HK2.out; first | omega | exact Nat.le_refl _⟩, ⟨by repeat (first | (with_reducible first | exact HB.out | apply below_alloc | apply pw_below_drewN | apply below_drew1) | exact HB.out)⟩⟩
                  · have H1 : (fettlelaw01_ArithBack.j2 k2 a0 a1 t119 t147 (wrap64 (a0 - t153)) true) = some r := by rw [if_neg (show ¬ (some q155).isNone = true by simp)] at H; exact H
                    clear H
                    have H := H1
                    clear H1
                    try simp only [errW_none, errW_some]
                    have H' := Aside0.mk H
                    clear H
                    go_wp2
                    go_meet
                    case rel => exact ⟨_, (true), (by first | rfl | (simp; done) | (simp [*]; done)), H', ⟨by have := HJ5.out; have := HK2.out; first | omega | exact Nat.le_refl _⟩, ⟨by repeat (first | (with_reducible first | exact HB.out | apply below_alloc | apply pw_below_drewN | apply below_drew1) | exact HB.out)⟩⟩
                case rest =>
                  clear HC56
                  try clear c1
                  try clear q1
                  try clear p2
                  try clear c4
                  try clear c5
                  try clear p6
                  try clear c11
                  try clear c12
                  try clear q13
                  try clear c14
                  try clear q14
                  try clear c15
                  try clear c15b0
                  try clear q15
                  try clear c18
                  try clear c18b0
                  try clear c18b1
                  try clear c44
                  try clear c44b0
                  try clear c44b1
                  try clear c45
                  try clear p2
                  try clear p6
                  try clear q1
                  try clear q13
                  try clear q130
                  try clear q131
                  try clear q142
                  try clear q143
                  try clear q149
                  try clear q155
                  try clear q156
                  obtain ⟨kq, x113_55, rfl, HA, HJ55, HB⟩ := hcut
                  cases kq with
                  | zero => exact absurd HA.out (by simp [fettlelaw01_ArithBack.j2])
                  | succ kj55 =>
                    have H := HA.out
                    clear HA
                    simp only [fettlelaw01_ArithBack.j2] at H
                    by_cases c63 : x113_55 = true
                    · subst c63
                      have H1 : (some false) = some r := by rw [if_pos rfl] at H; exact H
                      clear H
                      have H := H1
                      clear H1
                      obtain rfl := Option.some.inj H
                      go_wp2
                      go_ret
                      exact ⟨by first | rfl | (simp [errW_none, errW_some] <;> rfl) | (simp [*, errW_none, errW_some] <;> rfl), by repeat (first | (with_reducible first | exact HB.out | apply below_alloc | apply pw_below_drewN | apply below_drew1) | exact HB.out)⟩
                    · replace c63 := Bool.eq_false_iff.mpr c63
                      subst c63
                      have H1 : (if a1 = (-9223372036854775808) then (if t119 = true then (if t147 = 1 then (if a0 = a1 then (some true) else (some (t147 == 0))) else (some (t147 == 0))) else (some false)) else (if a1 < 0 then (if t119 = true then (if (wrap64 (a0 - t153)) < (wrap64 (-a1)) then (if (wrap64 (a0 - t153)) > (wrap64 (-(wrap64 (-a1)))) then (if (wrap64 (a0 - t153)) = 0 then (some true) else (some ((decide ((wrap64 (a0 - t153)) < 0)) == (decide (a0 < 0))))) else (some false)) else (some false)) else (some false)) else (if t119 = true then (if (wrap64 (a0 - t153)) < a1 then (if (wrap64 (a0 - t153)) > (wrap64 (-a1)) then (if (wrap64 (a0 - t153)) = 0 then (some true) else (some ((decide ((wrap64 (a0 - t153)) < 0)) == (decide (a0 < 0))))) else (some false)) else (some false)) else (some false)))) = some r := by rw [if_neg (show ¬ (false = true) by decide)] at H; exact H
                      clear H
                      have H := H1
                      clear H1
                      by_cases c64 : a1 = (-9223372036854775808)
                      · rw [if_pos c64] at H
                        have c64b0 : (a1 == (-9223372036854775808)) = true := beq_iff_eq.mpr c64
                        have c64b1 : (a1 != (-9223372036854775808)) = false := bne_eq_false_iff_eq.mpr c64
                        clear c64
                        by_cases c65 : t119 = true
                        · subst c65
                          have H1 : (if t147 = 1 then (if a0 = a1 then (some true) else (some (t147 == 0))) else (some (t147 == 0))) = some r := by rw [if_pos rfl] at H; exact H
                          clear H
                          have H := H1
                          clear H1
                          by_cases c66 : t147 = 1
                          · rw [if_pos c66] at H
                            have c66b0 : (t147 == 1) = true := beq_iff_eq.mpr c66
                            have c66b1 : (t147 != 1) = false := bne_eq_false_iff_eq.mpr c66
                            clear c66
                            by_cases c67 : a0 = a1
                            · rw [if_pos c67] at H
                              have c67b0 : (a0 == a1) = true := beq_iff_eq.mpr c67
                              have c67b1 : (a0 != a1) = false := bne_eq_false_iff_eq.mpr c67
                              clear c67
                              obtain rfl := Option.some.inj H
                              go_wp2
                              go_ret
                              exact ⟨by first | rfl | (simp [errW_none, errW_some] <;> rfl) | (simp [*, errW_none, errW_some] <;> rfl), by repeat (first | (with_reducible first | exact HB.out | apply below_alloc | apply pw_below_drewN | apply below_drew1) | exact HB.out)⟩
                            · rw [if_neg c67] at H
                              have c67b0 : (a0 == a1) = false := beq_eq_false_iff_ne.mpr c67
                              have c67b1 : (a0 != a1) = true := bne_iff_ne.mpr c67
                              obtain rfl := Option.some.inj H
                              go_wp2
                              go_ret
                              exact ⟨by first | rfl | (simp [errW_none, errW_some] <;> rfl) | (simp [*, errW_none, errW_some] <;> rfl), by repeat (first | (with_reducible first | exact HB.out | apply below_alloc | apply pw_below_drewN | apply below_drew1) | exact HB.out)⟩
                          · rw [if_neg c66] at H
                            have c66b0 : (t147 == 1) = false := beq_eq_false_iff_ne.mpr c66
                            have c66b1 : (t147 != 1) = true := bne_iff_ne.mpr c66
                            obtain rfl := Option.some.inj H
                            go_wp2
                            go_ret
                            exact ⟨by first | rfl | (simp [errW_none, errW_some] <;> rfl) | (simp [*, errW_none, errW_some] <;> rfl), by repeat (first | (with_reducible first | exact HB.out | apply below_alloc | apply pw_below_drewN | apply below_drew1) | exact HB.out)⟩
                        · replace c65 := Bool.eq_false_iff.mpr c65
                          subst c65
                          have H1 : (some false) = some r := by rw [if_neg (show ¬ (false = true) by decide)] at H; exact H
                          clear H
                          have H := H1
                          clear H1
                          obtain rfl := Option.some.inj H
                          go_wp2
                          go_ret
                          exact ⟨by first | rfl | (simp [errW_none, errW_some] <;> rfl) | (simp [*, errW_none, errW_some] <;> rfl), by repeat (first | (with_reducible first | exact HB.out | apply below_alloc | apply pw_below_drewN | apply below_drew1) | exact HB.out)⟩
                      · rw [if_neg c64] at H
                        have c64b0 : (a1 == (-9223372036854775808)) = false := beq_eq_false_iff_ne.mpr c64
                        have c64b1 : (a1 != (-9223372036854775808)) = true := bne_iff_ne.mpr c64
                        by_cases c68 : a1 < 0
                        · rw [if_pos c68] at H
                          have c68b0 : decide (a1 < 0) = true := decide_eq_true c68
                          clear c68
                          by_cases c69 : t119 = true
                          · subst c69
                            have H1 : (if (wrap64 (a0 - t153)) < (wrap64 (-a1)) then (if (wrap64 (a0 - t153)) > (wrap64 (-(wrap64 (-a1)))) then (if (wrap64 (a0 - t153)) = 0 then (some true) else (some ((decide ((wrap64 (a0 - t153)) < 0)) == (decide (a0 < 0))))) else (some false)) else (some false)) = some r := by rw [if_pos rfl] at H; exact H
                            clear H
                            have H := H1
                            clear H1
                            by_cases c70 : (wrap64 (a0 - t153)) < (wrap64 (-a1))
                            · rw [if_pos c70] at H
                              have c70b0 : decide ((wrap64 (a0 - t153)) < (wrap64 (-a1))) = true := decide_eq_true c70
                              clear c70
                              by_cases c71 : (wrap64 (a0 - t153)) > (wrap64 (-(wrap64 (-a1))))
                              · rw [if_pos c71] at H
                                have c71b0 : decide ((wrap64 (-(wrap64 (-a1)))) < (wrap64 (a0 - t153))) = true := decide_eq_true c71
                                clear c71
                                by_cases c72 : (wrap64 (a0 - t153)) = 0
                                · rw [if_pos c72] at H
                                  have c72b0 : ((wrap64 (a0 - t153)) == 0) = true := beq_iff_eq.mpr c72
                                  have c72b1 : ((wrap64 (a0 - t153)) != 0) = false := bne_eq_false_iff_eq.mpr c72
                                  clear c72
                                  obtain rfl := Option.some.inj H
                                  go_wp2
                                  go_ret
                                  exact ⟨by first | rfl | (simp [errW_none, errW_some] <;> rfl) | (simp [*, errW_none, errW_some] <;> rfl), by repeat (first | (with_reducible first | exact HB.out | apply below_alloc | apply pw_below_drewN | apply below_drew1) | exact HB.out)⟩
                                · rw [if_neg c72] at H
                                  have c72b0 : ((wrap64 (a0 - t153)) == 0) = false := beq_eq_false_iff_ne.mpr c72
                                  have c72b1 : ((wrap64 (a0 - t153)) != 0) = true := bne_iff_ne.mpr c72
                                  obtain rfl := Option.some.inj H
                                  go_wp2
                                  go_ret
                                  exact ⟨by first | rfl | (simp [errW_none, errW_some] <;> rfl) | (simp [*, errW_none, errW_some] <;> rfl), by repeat (first | (with_reducible first | exact HB.out | apply below_alloc | apply pw_below_drewN | apply below_drew1) | exact HB.out)⟩
                              · rw [if_neg c71] at H
                                have c71b0 : decide ((wrap64 (-(wrap64 (-a1)))) < (wrap64 (a0 - t153))) = false := decide_eq_false c71
                                clear c71
                                obtain rfl := Option.some.inj H
                                go_wp2
                                go_ret
                                exact ⟨by first | rfl | (simp [errW_none, errW_some] <;> rfl) | (simp [*, errW_none, errW_some] <;> rfl), by repeat (first | (with_reducible first | exact HB.out | apply below_alloc | apply pw_below_drewN | apply below_drew1) | exact HB.out)⟩
                            · rw [if_neg c70] at H
                              have c70b0 : decide ((wrap64 (a0 - t153)) < (wrap64 (-a1))) = false := decide_eq_false c70
                              clear c70
                              obtain rfl := Option.some.inj H
                              go_wp2
                              go_ret
                              exact ⟨by first | rfl | (simp [errW_none, errW_some] <;> rfl) | (simp [*, errW_none, errW_some] <;> rfl), by repeat (first | (with_reducible first | exact HB.out | apply below_alloc | apply pw_below_drewN | apply below_drew1) | exact HB.out)⟩
                          · replace c69 := Bool.eq_false_iff.mpr c69
                            subst c69
                            have H1 : (some false) = some r := by rw [if_neg (show ¬ (false = true) by decide)] at H; exact H
                            clear H
                            have H := H1
                            clear H1
                            obtain rfl := Option.some.inj H
                            go_wp2
                            go_ret
                            exact ⟨by first | rfl | (simp [errW_none, errW_some] <;> rfl) | (simp [*, errW_none, errW_some] <;> rfl), by repeat (first | (with_reducible first | exact HB.out | apply below_alloc | apply pw_below_drewN | apply below_drew1) | exact HB.out)⟩
                        · rw [if_neg c68] at H
                          have c68b0 : decide (a1 < 0) = false := decide_eq_false c68
                          clear c68
                          by_cases c73 : t119 = true
                          · subst c73
                            have H1 : (if (wrap64 (a0 - t153)) < a1 then (if (wrap64 (a0 - t153)) > (wrap64 (-a1)) then (if (wrap64 (a0 - t153)) = 0 then (some true) else (some ((decide ((wrap64 (a0 - t153)) < 0)) == (decide (a0 < 0))))) else (some false)) else (some false)) = some r := by rw [if_pos rfl] at H; exact H
                            clear H
                            have H := H1
                            clear H1
                            by_cases c74 : (wrap64 (a0 - t153)) < a1
                            · rw [if_pos c74] at H
                              have c74b0 : decide ((wrap64 (a0 - t153)) < a1) = true := decide_eq_true c74
                              clear c74
                              by_cases c75 : (wrap64 (a0 - t153)) > (wrap64 (-a1))
                              · rw [if_pos c75] at H
                                have c75b0 : decide ((wrap64 (-a1)) < (wrap64 (a0 - t153))) = true := decide_eq_true c75
                                clear c75
                                by_cases c76 : (wrap64 (a0 - t153)) = 0
                                · rw [if_pos c76] at H
                                  have c76b0 : ((wrap64 (a0 - t153)) == 0) = true := beq_iff_eq.mpr c76
                                  have c76b1 : ((wrap64 (a0 - t153)) != 0) = false := bne_eq_false_iff_eq.mpr c76
                                  clear c76
                                  obtain rfl := Option.some.inj H
                                  go_wp2
                                  go_ret
                                  exact ⟨by first | rfl | (simp [errW_none, errW_some] <;> rfl) | (simp [*, errW_none, errW_some] <;> rfl), by repeat (first | (with_reducible first | exact HB.out | apply below_alloc | apply pw_below_drewN | apply below_drew1) | exact HB.out)⟩
                                · rw [if_neg c76] at H
                                  have c76b0 : ((wrap64 (a0 - t153)) == 0) = false := beq_eq_false_iff_ne.mpr c76
                                  have c76b1 : ((wrap64 (a0 - t153)) != 0) = true := bne_iff_ne.mpr c76
                                  obtain rfl := Option.some.inj H
                                  go_wp2
                                  go_ret
                                  exact ⟨by first | rfl | (simp [errW_none, errW_some] <;> rfl) | (simp [*, errW_none, errW_some] <;> rfl), by repeat (first | (with_reducible first | exact HB.out | apply below_alloc | apply pw_below_drewN | apply below_drew1) | exact HB.out)⟩
                              · rw [if_neg c75] at H
                                have c75b0 : decide ((wrap64 (-a1)) < (wrap64 (a0 - t153))) = false := decide_eq_false c75
                                clear c75
                                obtain rfl := Option.some.inj H
                                go_wp2
                                go_ret
                                exact ⟨by first | rfl | (simp [errW_none, errW_some] <;> rfl) | (simp [*, errW_none, errW_some] <;> rfl), by repeat (first | (with_reducible first | exact HB.out | apply below_alloc | apply pw_below_drewN | apply below_drew1) | exact HB.out)⟩
                            · rw [if_neg c74] at H
                              have c74b0 : decide ((wrap64 (a0 - t153)) < a1) = false := decide_eq_false c74
                              clear c74
                              obtain rfl := Option.some.inj H
                              go_wp2
                              go_ret
                              exact ⟨by first | rfl | (simp [errW_none, errW_some] <;> rfl) | (simp [*, errW_none, errW_some] <;> rfl), by repeat (first | (with_reducible first | exact HB.out | apply below_alloc | apply pw_below_drewN | apply below_drew1) | exact HB.out)⟩
                          · replace c73 := Bool.eq_false_iff.mpr c73
                            subst c73
                            have H1 : (some false) = some r := by rw [if_neg (show ¬ (false = true) by decide)] at H; exact H
                            clear H
                            have H := H1
                            clear H1
                            obtain rfl := Option.some.inj H
                            go_wp2
                            go_ret
                            exact ⟨by first | rfl | (simp [errW_none, errW_some] <;> rfl) | (simp [*, errW_none, errW_some] <;> rfl), by repeat (first | (with_reducible first | exact HB.out | apply below_alloc | apply pw_below_drewN | apply below_drew1) | exact HB.out)⟩

/-- THE ONE PURE STATEMENT of fettlelaw01_ArithBack: yours. -/
def fettlelaw01_ArithBack.Pure : Prop := ∀ (a0 : Int) (a1 : Int), (Lit.int .i64 a0).wf = true → (Lit.int .i64 a1).wf = true → ∃ k, fettlelaw01_ArithBack.f k a0 a1 = some true
theorem fettlelaw01_ArithBack.walk (P : fettlelaw01_ArithBack.Pure) (a0 : Int) (a1 : Int) (w : World) (w0 : (Lit.int .i64 a0).wf = true) (w1 : (Lit.int .i64 a1).wf = true) :
    Calls Try.prog 5 #[.int .i64 a0, .int .i64 a1] w fun e w' => e = .returned (.bool true) ∧ Below w.heap.size w w' := by
  obtain ⟨k, h⟩ := P a0 a1 w0 w1
  refine (fettlelaw01_ArithBack.calls k a0 a1 true w h).mono ?_
  rintro e w' ⟨rfl, hd⟩
  exact ⟨rfl, hd⟩

end Go.Proofs.Ytenlbbookiopiaa.PArithBack
