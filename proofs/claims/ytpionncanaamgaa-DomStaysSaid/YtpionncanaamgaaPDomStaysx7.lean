-- Laid by a program of this session (wip/pp/patch.py over the kit's print).
import Derived.Test.YtpionncanaamgaaPDomStaysx0
import Derived.Test.YtpionncanaamgaaPDomStaysx4
import Derived.Test.YtpionncanaamgaaPDomStaysx6
import Derived.Test.YtpionncanaamgaaShort
namespace Go.Proofs.Ytpionncanaamgaa.PDomStays
open Go.Proofs.Ytpionncanaamgaa.Short Go.RowKit Go.Proofs.YtpionncanaamgaaW.PrintWords Go.Proofs.YtpionncanaamgaaW.PrintLast Go.Proofs.YtpionncanaamgaaW.PrintMore Go.Proofs.YtpionncanaamgaaW.PrintWords.Kd
attribute [local go_sem] max2_int min2_int max_two min_two max_three min_three max_four min_four   -- for this text's walks alone
set_option linter.unusedVariables false
set_option linter.unusedSimpArgs false

/-! ### fettlelaw05_Ints: function 15 -/
def fettlelaw05_Ints.l0 : Nat → List Int → List Int → Int → Option (Bool)
  | 0, _, _, _ => none
  | k + 1, x0, x1, x5 => if x5 < (x0.length : Int) then (if 0 ≤ x5 then (if x5 < (x1.length : Int) then (if (rd x0 x5) = (rd x1 x5) then (fettlelaw05_Ints.l0 k x0 x1 (wrap64 (x5 + 1))) else (some false)) else (none)) else (none)) else (some true)
def fettlelaw05_Ints.f (k : Nat) (l0 : List Int) (l1 : List Int) : Option (Bool) := if (l0.length : Int) = (l1.length : Int) then (fettlelaw05_Ints.l0 k l0 l1 0) else (some false)
theorem fettlelaw05_Ints.mono_l : ∀ k, (∀ y0 y1 y2, LeO (fettlelaw05_Ints.l0 k y0 y1 y2) (fettlelaw05_Ints.l0 (k + 1) y0 y1 y2))
  | 0 => fun _ _ _ r h => by simp [fettlelaw05_Ints.l0] at h
  | k + 1 => by
    have ih0 := fettlelaw05_Ints.mono_l k
    · intro y0 y1 y2
      unfold fettlelaw05_Ints.l0
      repeat' first
      | (with_reducible exact ih0 _ _ _)
      | (with_reducible exact LeO.refl _)
      | (with_reducible exact LeO.none _)
      | (with_reducible refine LeO.ite ?_ ?_)
      | (with_reducible refine LeO.bind ?_ (fun _ => ?_))
      | exact ih0 _ _ _
      | exact LeO.none _
      | refine LeO.ite ?_ ?_
      | refine LeO.bind ?_ (fun _ => ?_)
theorem fettlelaw05_Ints.mono : ∀ a0 a1 k, LeO (fettlelaw05_Ints.f k a0 a1) (fettlelaw05_Ints.f (k + 1) a0 a1) := by
  intro a0 a1 k
  have ih0 := fettlelaw05_Ints.mono_l k
  unfold fettlelaw05_Ints.f
  repeat' first
      | (with_reducible exact ih0 _ _ _)
      | (with_reducible exact LeO.refl _)
      | (with_reducible exact LeO.none _)
      | (with_reducible refine LeO.ite ?_ ?_)
      | (with_reducible refine LeO.bind ?_ (fun _ => ?_))
      | exact ih0 _ _ _
      | exact LeO.none _
      | refine LeO.ite ?_ ?_
      | refine LeO.bind ?_ (fun _ => ?_)
set_option maxHeartbeats 8000000 in
set_option maxRecDepth 100000 in
theorem fettlelaw05_Ints.calls (k : Nat) (A0 : Option Addr) (c0 : Nat) (l0 : List Int) (A1 : Option Addr) (c1 : Nat) (l1 : List Int) (r : Bool) (w : World) (hr0 : Kd.C (Kd.int .i64) w A0 l0.length l0) (hc0 : l0.length ≤ c0) (hr1 : Kd.C (Kd.int .i64) w A1 l1.length l1) (hc1 : l1.length ≤ c1) (h : fettlelaw05_Ints.f k l0 l1 = some r) :
    Calls Try.prog 15 #[.slice A0 l0.length c0, .slice A1 l1.length c1] w fun e w' => e = .returned (.bool r) ∧ Drawn0 w w' := by
  have HR0 := Aside0.mk hr0
  have HC0 := Aside0.mk hc0
  clear hr0 hc0
  have HR1 := Aside0.mk hr1
  have HC1 := Aside0.mk hc1
  clear hr1 hc1
  have H : (if (l0.length : Int) = (l1.length : Int) then (fettlelaw05_Ints.l0 k l0 l1 0) else (some false)) = some r := h
  clear h
  by_cases c3 : (l0.length : Int) = (l1.length : Int)
  · rw [if_pos c3] at H
    have c3b0 : ((l0.length : Int) == (l1.length : Int)) = true := beq_iff_eq.mpr c3
    have c3b1 : ((l0.length : Int) != (l1.length : Int)) = false := bne_eq_false_iff_eq.mpr c3
    have c3b2 : (l0.length == l1.length) = true := by first | simpa using c3 | (simp at c3 ⊢; omega)
    clear c3
    have H' := Aside0.mk H
    clear H
    go_enter Try.func15, Try.ntmps15
    go_wp2
    repeat (go_quiet (fail); try go_wp2)
    go_loopg [5] k (fun kq v5 w' => ∃ (x5_1 : Int), v5 = .int .i64 x5_1 ∧ Aside0 (fettlelaw05_Ints.l0 kq l0 l1 x5_1 = some r) ∧ Aside0 (kq ≤ k) ∧ Drawn0 w w')
    case atStart => exact ⟨(0), (by first | rfl | (simp; done) | (simp [*]; done)), H', ⟨Nat.le_refl _⟩, by repeat (first | exact Drawn0.refl _ | apply Drawn0.step)⟩
    clear H'
    try clear c1
    try clear p2
    try clear c3
    try clear c3b0
    try clear c3b1
    try clear c3b2
    obtain ⟨x5_1, rfl, HA, HK1, ⟨m1, rfl⟩⟩ := hrel
    rcases gk with _ | k1
    · exact absurd HA.out (by simp [fettlelaw05_Ints.l0])
    have H := HA.out
    clear HA
    simp only [fettlelaw05_Ints.l0] at H
    by_cases c4 : x5_1 < (l0.length : Int)
    rotate_left
    · rw [if_neg c4] at H
      have c4b0 : decide (x5_1 < (l0.length : Int)) = false := decide_eq_false c4
      clear c4
      obtain rfl := Option.some.inj H
      go_wp2
      repeat (go_quiet (fail); try go_wp2)
      go_ret
      exact ⟨by first | rfl | (simp; done) | (simp [*]; done), by repeat (first | exact Drawn0.refl _ | apply Drawn0.step)⟩
    rw [if_pos c4] at H
    have c4b0 : decide (x5_1 < (l0.length : Int)) = true := decide_eq_true c4
    clear c4
    by_cases c5 : 0 ≤ x5_1
    rotate_left
    · rw [if_neg c5] at H
      exact absurd H (by simp)
    rw [if_pos c5] at H
    have c5b0 : decide (0 ≤ x5_1) = true := decide_eq_true c5
    clear c5
    by_cases c6 : x5_1 < (l1.length : Int)
    rotate_left
    · rw [if_neg c6] at H
      exact absurd H (by simp)
    rw [if_pos c6] at H
    have c6b0 : decide (x5_1 < (l1.length : Int)) = true := decide_eq_true c6
    clear c6
    by_cases c7 : (rd l0 x5_1) = (rd l1 x5_1)
    · rw [if_pos c7] at H
      have c7b0 : ((rd l0 x5_1) == (rd l1 x5_1)) = true := beq_iff_eq.mpr c7
      have c7b1 : ((rd l0 x5_1) != (rd l1 x5_1)) = false := bne_eq_false_iff_eq.mpr c7
      clear c7
      have H' := Aside0.mk H
      clear H
      have p241 : 0 ≤ (x5_1 : Int) := of_decide_eq_true (by with_reducible assumption)
      have q241 : x5_1 < (l0.length : Int) := of_decide_eq_true (by with_reducible assumption)
      obtain ⟨ad241, e241, hx241_0⟩ := Kd.at_int HR0.out x5_1 p241 q241
      cases e241
      replace p241 := eq_true p241
      replace q241 := eq_true q241
      have p242 : 0 ≤ (x5_1 : Int) := of_decide_eq_true (by with_reducible assumption)
      have q242 : x5_1 < (l1.length : Int) := of_decide_eq_true (by with_reducible assumption)
      obtain ⟨ad242, e242, hx242_0⟩ := Kd.at_int HR1.out x5_1 p242 q242
      cases e242
      replace p242 := eq_true p242
      replace q242 := eq_true q242
      go_wp2
      repeat (go_quiet (fail); try go_wp2)
      go_roundg k1
      case measure => have := HK1.out; omega
      case rel => exact ⟨(wrap64 (x5_1 + 1)), (by first | rfl | (simp; done) | (simp [*]; done)), H', ⟨by have := HK1.out; omega⟩, by repeat (first | exact Drawn0.refl _ | apply Drawn0.step)⟩
    rw [if_neg c7] at H
    have c7b0 : ((rd l0 x5_1) == (rd l1 x5_1)) = false := beq_eq_false_iff_ne.mpr c7
    have c7b1 : ((rd l0 x5_1) != (rd l1 x5_1)) = true := bne_iff_ne.mpr c7
    obtain rfl := Option.some.inj H
    have p241 : 0 ≤ (x5_1 : Int) := of_decide_eq_true (by with_reducible assumption)
    have q241 : x5_1 < (l0.length : Int) := of_decide_eq_true (by with_reducible assumption)
    obtain ⟨ad241, e241, hx241_0⟩ := Kd.at_int HR0.out x5_1 p241 q241
    cases e241
    replace p241 := eq_true p241
    replace q241 := eq_true q241
    have p242 : 0 ≤ (x5_1 : Int) := of_decide_eq_true (by with_reducible assumption)
    have q242 : x5_1 < (l1.length : Int) := of_decide_eq_true (by with_reducible assumption)
    obtain ⟨ad242, e242, hx242_0⟩ := Kd.at_int HR1.out x5_1 p242 q242
    cases e242
    replace p242 := eq_true p242
    replace q242 := eq_true q242
    go_wp2
    repeat (go_quiet (fail); try go_wp2)
    go_ret
    exact ⟨by first | rfl | (simp; done) | (simp [*]; done), by repeat (first | exact Drawn0.refl _ | apply Drawn0.step)⟩
  rw [if_neg c3] at H
  have c3b0 : ((l0.length : Int) == (l1.length : Int)) = false := beq_eq_false_iff_ne.mpr c3
  have c3b1 : ((l0.length : Int) != (l1.length : Int)) = true := bne_iff_ne.mpr c3
  have c3b2 : (l0.length == l1.length) = false := by first | simpa using c3 | (simp at c3 ⊢; omega)
  obtain rfl := Option.some.inj H
  go_enter Try.func15, Try.ntmps15
  go_wp2
  repeat (go_quiet (fail); try go_wp2)
  go_ret
  exact ⟨by first | rfl | (simp; done) | (simp [*]; done), by repeat (first | exact Drawn0.refl _ | apply Drawn0.step)⟩

/-! ### fettlelaw06_up: function 11 -/
def fettlelaw06_up.l0 : Nat → List (S47) → Int → Int → Int → List (S52) → Option (Bool)
  | 0, _, _, _, _, _ => none
  | k + 1, x1, x3, x256000, x256001, x256003 => if x3 < 4 then (if 0 ≤ x3 then (if x3 < (x1.length : Int) then (if x256003.length < 1599289640401 then (fettlelaw06_up.l0 k x1 (wrap64 (x3 + 1)) x256000 x256001 (x256003 ++ [(⟨([] : List (S62)), ([] : List (S64)), (⟨(rd_T47 x1 x3).f0, (rd_T47 x1 x3).f1, (rd_T47 x1 x3).f2⟩ : S47)⟩ : S52)])) else (none)) else (none)) else (none)) else ((dom_Nearest.f k x256000 x256001 ([] : List Int) x256003).bind fun t260 => ((dom_Frontier.f k x256000 x256001 ([] : List Int) x256003).bind fun t263 => ((fettlelaw05_Ints.f k t260 (([(-1), 0, 0, 0] : List Int))).bind fun t269 => (if t269 = true then (if (t263.length : Int) = 4 then (if 1 < (t263.length : Int) then ((fettlelaw05_Ints.f k (rd_L1 t263 1) (([3] : List Int))).bind fun t274 => (if t274 = true then (if 2 < (t263.length : Int) then ((fettlelaw05_Ints.f k (rd_L1 t263 2) (([3] : List Int))).bind fun t279 => (some t279)) else (none)) else (some false))) else (none)) else (some false)) else (some false)))))
def fettlelaw06_up.f (k : Nat)  : Option (Bool) := fettlelaw06_up.l0 k (([(⟨0, 0, (([1, 2] : List Int))⟩ : S47), (⟨0, 0, (([3] : List Int))⟩ : S47), (⟨0, 0, (([3] : List Int))⟩ : S47), (⟨0, 0, ([] : List Int)⟩ : S47)] : List (S47))) 0 0 0 ([] : List (S52))
theorem fettlelaw06_up.mono_l : ∀ k, (∀ y0 y1 y2 y3 y4, LeO (fettlelaw06_up.l0 k y0 y1 y2 y3 y4) (fettlelaw06_up.l0 (k + 1) y0 y1 y2 y3 y4))
  | 0 => fun _ _ _ _ _ r h => by simp [fettlelaw06_up.l0] at h
  | k + 1 => by
    have ih0 := fettlelaw06_up.mono_l k
    · intro y0 y1 y2 y3 y4
      unfold fettlelaw06_up.l0
      repeat' first
      | (with_reducible exact ih0 _ _ _ _ _)
      | (with_reducible exact dom_Frontier.mono _ _ _ _ _)
      | (with_reducible exact dom_Nearest.mono _ _ _ _ _)
      | (with_reducible exact fettlelaw05_Ints.mono _ _ _)
      | (with_reducible exact LeO.refl _)
      | (with_reducible exact LeO.none _)
      | (with_reducible refine LeO.ite ?_ ?_)
      | (with_reducible refine LeO.bind ?_ (fun _ => ?_))
      | exact ih0 _ _ _ _ _
      | exact dom_Frontier.mono _ _ _ _ _
      | exact dom_Nearest.mono _ _ _ _ _
      | exact fettlelaw05_Ints.mono _ _ _
      | exact LeO.none _
      | refine LeO.ite ?_ ?_
      | refine LeO.bind ?_ (fun _ => ?_)
theorem fettlelaw06_up.mono : ∀ k, LeO (fettlelaw06_up.f k ) (fettlelaw06_up.f (k + 1) ) := by
  intro  k
  have ih0 := fettlelaw06_up.mono_l k
  unfold fettlelaw06_up.f
  repeat' first
      | (with_reducible exact ih0 _ _ _ _ _)
      | (with_reducible exact dom_Frontier.mono _ _ _ _ _)
      | (with_reducible exact dom_Nearest.mono _ _ _ _ _)
      | (with_reducible exact fettlelaw05_Ints.mono _ _ _)
      | (with_reducible exact LeO.refl _)
      | (with_reducible exact LeO.none _)
      | (with_reducible refine LeO.ite ?_ ?_)
      | (with_reducible refine LeO.bind ?_ (fun _ => ?_))
      | exact ih0 _ _ _ _ _
      | exact dom_Frontier.mono _ _ _ _ _
      | exact dom_Nearest.mono _ _ _ _ _
      | exact fettlelaw05_Ints.mono _ _ _
      | exact LeO.none _
      | refine LeO.ite ?_ ?_
      | refine LeO.bind ?_ (fun _ => ?_)
def fettlelaw06_up.T6 : Bool × List (List Nat × List Nat) := (true, [([], []), ([0], [0]), ([], []), ([], []), ([2, 3], [2, 3]), ([4], [4]), ([5], [5]), ([6], [6]), ([1, 7], [1, 7]), ([0, 1, 2, 3, 4, 5, 6, 7, 8], []), ([9, 8, 8, 0, 1, 2, 3, 4, 5, 6, 7, 8], [8, 9])])
def fettlelaw06_up.B6 : List Nat := [0, 1, 0, 0, 12, 28, 60, 124, 255, 511, 1023]
theorem fettlelaw06_up.tab6 : rtab .any (opsOf Try.f11 6) = fettlelaw06_up.T6 := by kernel_rfl
theorem fettlelaw06_up.bits6 : waitsOk fettlelaw06_up.T6.2 fettlelaw06_up.B6 = true := by kernel_rfl
set_option maxHeartbeats 8000000 in
set_option maxRecDepth 100000 in
theorem fettlelaw06_up.calls (k : Nat)  (r : Bool) (w : World) (h : fettlelaw06_up.f k  = some r) :
    Calls Try.prog 11 #[] w fun e w' => e = .returned (.bool r) ∧ Below w.heap.size w w' := by
  have hu47 := Try.underlying47
  have hu25 := Try.underlying25
  have hu52 := Try.underlying52
  have HB := Aside0.mk (Below.refl w.heap.size w)
  have H : (fettlelaw06_up.l0 k (([(⟨0, 0, (([1, 2] : List Int))⟩ : S47), (⟨0, 0, (([3] : List Int))⟩ : S47), (⟨0, 0, (([3] : List Int))⟩ : S47), (⟨0, 0, ([] : List Int)⟩ : S47)] : List (S47))) 0 0 0 ([] : List (S52))) = some r := h
  clear h
  obtain ⟨y243, hy243⟩ : ∃ y_ : List Int, y_ = (([1, 2] : List Int)) := ⟨_, rfl⟩
  replace H : (fettlelaw06_up.l0 k (([(⟨0, 0, y243⟩ : S47), (⟨0, 0, (([3] : List Int))⟩ : S47), (⟨0, 0, (([3] : List Int))⟩ : S47), (⟨0, 0, ([] : List Int)⟩ : S47)] : List (S47))) 0 0 0 ([] : List (S52))) = some r := by first | (rw [hy243]; with_reducible exact H) | (have H2_ := (Option.bind_some _ _).symm.trans H; rw [hy243]; with_reducible exact H2_) | exact H
  have Ny243 := Aside0.mk hy243
  clear hy243
  obtain ⟨y246, hy246⟩ : ∃ y_ : List Int, y_ = (([3] : List Int)) := ⟨_, rfl⟩
  replace H : (fettlelaw06_up.l0 k (([(⟨0, 0, y243⟩ : S47), (⟨0, 0, y246⟩ : S47), (⟨0, 0, (([3] : List Int))⟩ : S47), (⟨0, 0, ([] : List Int)⟩ : S47)] : List (S47))) 0 0 0 ([] : List (S52))) = some r := by first | (rw [hy246]; with_reducible exact H) | (have H2_ := (Option.bind_some _ _).symm.trans H; rw [hy246]; with_reducible exact H2_) | exact H
  have Ny246 := Aside0.mk hy246
  clear hy246
  obtain ⟨y249, hy249⟩ : ∃ y_ : List Int, y_ = (([3] : List Int)) := ⟨_, rfl⟩
  replace H : (fettlelaw06_up.l0 k (([(⟨0, 0, y243⟩ : S47), (⟨0, 0, y246⟩ : S47), (⟨0, 0, y249⟩ : S47), (⟨0, 0, ([] : List Int)⟩ : S47)] : List (S47))) 0 0 0 ([] : List (S52))) = some r := by first | (rw [hy249]; with_reducible exact H) | (have H2_ := (Option.bind_some _ _).symm.trans H; rw [hy249]; with_reducible exact H2_) | exact H
  have Ny249 := Aside0.mk hy249
  clear hy249
  obtain ⟨y252, hy252⟩ : ∃ y_ : List (S47), y_ = (([(⟨0, 0, y243⟩ : S47), (⟨0, 0, y246⟩ : S47), (⟨0, 0, y249⟩ : S47), (⟨0, 0, ([] : List Int)⟩ : S47)] : List (S47))) := ⟨_, rfl⟩
  replace H : (fettlelaw06_up.l0 k y252 0 0 0 ([] : List (S52))) = some r := by first | (rw [hy252]; with_reducible exact H) | (have H2_ := (Option.bind_some _ _).symm.trans H; rw [hy252]; with_reducible exact H2_) | exact H
  have Ny252 := Aside0.mk hy252
  clear hy252
  have H' := Aside0.mk H
  clear H
  go_enter Try.func11, Try.ntmps11
  go_wp2_with (first | ((with_reducible refine gate_dst (N := 6) rfl ?_); (try (refine gate_guard (by rfl) ?_; dsimp only)); refine Kd.R_lit (Kd.int .i64) _ 3 ?hg (N := 6) ?hd (xs := ([1, 2] : List Int)) (inner := [.int .i64 1, .int .i64 2]) (ok := fun _ => True) (okp := fun _ => True) ?hr ?hp (fun _ hk => hk) trivial (Below.refl _ _) (Nat.le_refl _) (by simp) ?_; (case hd => rfl); (case hg => rfl); (case hr => first | (go_simp; done) | (go_simp; rfl)); (case hp => exact (Reps.one (show Kd.M (Kd.int .i64) _ _ _ 1 [.int .i64 1] from rfl) (Reps.one (show Kd.M (Kd.int .i64) _ _ _ 2 [.int .i64 2] from rfl) (Reps.none _ _)))); intro v244 w1 ho2 hb hg_ hnew_; clear hg_ hnew_; rw [← Ny243.out] at ho2; have n0_ := Aside0.mk (Kd.R_lower ho2 (below_size (by repeat with_reducible first | exact HB.out | apply below_alloc | apply pw_below_drewN | apply below_drew1))); have n1_ := Aside0.mk (below_step (by repeat with_reducible first | exact HB.out | apply below_alloc | apply pw_below_drewN | apply below_drew1) hb); clear HB; have HO245 := n0_; have HB := n1_; clear n0_ n1_; clear hb ho2; obtain ⟨Ao3, co3, eo3⟩ := Kd.R_slice HO245.out; subst eo3) | ((with_reducible refine gate_dst (N := 8) rfl ?_); (try (refine gate_guard (by rfl) ?_; dsimp only)); refine Kd.R_lit (Kd.int .i64) _ 3 ?hg (N := 8) ?hd (xs := ([3] : List Int)) (inner := [.int .i64 3]) (ok := fun _ => True) (okp := fun _ => True) ?hr ?hp (fun _ hk => hk) trivial (Below.refl _ _) (Nat.le_refl _) (by simp) ?_; (case hd => rfl); (case hg => rfl); (case hr => first | (go_simp; done) | (go_simp; rfl)); (case hp => exact (Reps.one (show Kd.M (Kd.int .i64) _ _ _ 3 [.int .i64 3] from rfl) (Reps.none _ _))); intro v247 w4 ho5 hb hg_ hnew_; clear hg_ hnew_; rw [← Ny246.out] at ho5; have n0_ := Aside0.mk (R_elder' (by (with_reducible repeat (first | apply R_alloc | apply R_drewN | apply R_drew)); exact HO245.out) (R_base ho5) hb); have n1_ := Aside0.mk (Kd.R_lower (R_new' ho5 (R_lt (by (with_reducible repeat (first | apply R_alloc | apply R_drewN | apply R_drew)); exact HO245.out))) (below_size (by repeat with_reducible first | exact HB.out | apply below_alloc | apply pw_below_drewN | apply below_drew1))); have n2_ := Aside0.mk (below_step (by repeat with_reducible first | exact HB.out | apply below_alloc | apply pw_below_drewN | apply below_drew1) hb); clear HO245; clear HB; have HO245 := n0_; have HO248 := n1_; have HB := n2_; clear n0_ n1_ n2_; clear hb ho5; obtain ⟨Ao6, co6, eo6⟩ := Kd.R_slice HO248.out; subst eo6) | ((with_reducible refine gate_dst (N := 10) rfl ?_); (try (refine gate_guard (by rfl) ?_; dsimp only)); refine Kd.R_lit (Kd.int .i64) _ 3 ?hg (N := 10) ?hd (xs := ([3] : List Int)) (inner := [.int .i64 3]) (ok := fun _ => True) (okp := fun _ => True) ?hr ?hp (fun _ hk => hk) trivial (Below.refl _ _) (Nat.le_refl _) (by simp) ?_; (case hd => rfl); (case hg => rfl); (case hr => first | (go_simp; done) | (go_simp; rfl)); (case hp => exact (Reps.one (show Kd.M (Kd.int .i64) _ _ _ 3 [.int .i64 3] from rfl) (Reps.none _ _))); intro v250 w7 ho8 hb hg_ hnew_; clear hg_ hnew_; rw [← Ny249.out] at ho8; have n0_ := Aside0.mk (R_elder' (by (with_reducible repeat (first | apply R_alloc | apply R_drewN | apply R_drew)); exact HO245.out) (R_base ho8) hb); have n1_ := Aside0.mk (R_elder' (by (with_reducible repeat (first | apply R_alloc | apply R_drewN | apply R_drew)); exact HO248.out) (R_base ho8) hb); have n2_ := Aside0.mk (Kd.R_lower (R_new' (R_new' ho8 (R_lt (by (with_reducible repeat (first | apply R_alloc | apply R_drewN | apply R_drew)); exact HO245.out))) (R_lt (by (with_reducible repeat (first | apply R_alloc | apply R_drewN | apply R_drew)); exact HO248.out))) (below_size (by repeat with_reducible first | exact HB.out | apply below_alloc | apply pw_below_drewN | apply below_drew1))); have n3_ := Aside0.mk (below_step (by repeat with_reducible first | exact HB.out | apply below_alloc | apply pw_below_drewN | apply below_drew1) hb); clear HO245; clear HO248; clear HB; have HO245 := n0_; have HO248 := n1_; have HO251 := n2_; have HB := n3_; clear n0_ n1_ n2_ n3_; clear hb ho8; obtain ⟨Ao9, co9, eo9⟩ := Kd.R_slice HO251.out; subst eo9) | ((with_reducible refine gate_dst (N := 13) rfl ?_); (try (refine gate_guard (by rfl) ?_; dsimp only)); refine Kd.N_lit k47 _ 47 ?hg (N' := 13) ?hd (xs := ([(⟨0, 0, y243⟩ : S47), (⟨0, 0, y246⟩ : S47), (⟨0, 0, y249⟩ : S47), (⟨0, 0, ([] : List Int)⟩ : S47)] : List (S47))) (inner := [.int .i64 0, .int .i64 0, .slice Ao3 y243.length co3, .int .i64 0, .int .i64 0, .slice Ao6 y246.length co6, .int .i64 0, .int .i64 0, .slice Ao9 y249.length co9, .int .i64 0, .int .i64 0, .slice none 0 0]) (ok := (fun _ => True)) (okp := (fun _ => True)) ?hr ?hp (fun _ hk => hk) ((show ∀ k_, w7.heap.size ≤ k_ → (fun _ => True) k_ from fun k_ hk => trivial) _ (Nat.le_refl _)) (Below.refl _ _) (Nat.le_refl _) (by simp) ?_; (case hd => rfl); (case hg => rfl); (case hr => first | (go_simp; done) | (go_simp; rfl)); (case hp => exact (Reps.c3 (show Kd.FK k47 _ _ (⟨0, 0, y243⟩ : S47) [.int .i64 0, .int .i64 0, .slice Ao3 y243.length co3] from (k47_mkF _ _ (⟨0, 0, y243⟩ : S47) (R_reads' (R_mono (ok' := (fun _ => True)) (HO245.out) (fun k_ hk => trivial))).2.1 (Kd.R_F (R_mono (ok' := (fun _ => True)) (HO245.out) (fun k_ hk => trivial))))) (Reps.c3 (show Kd.FK k47 _ _ (⟨0, 0, y246⟩ : S47) [.int .i64 0, .int .i64 0, .slice Ao6 y246.length co6] from (k47_mkF _ _ (⟨0, 0, y246⟩ : S47) (R_reads' (R_mono (ok' := (fun _ => True)) (HO248.out) (fun k_ hk => trivial))).2.1 (Kd.R_F (R_mono (ok' := (fun _ => True)) (HO248.out) (fun k_ hk => trivial))))) (Reps.c3 (show Kd.FK k47 _ _ (⟨0, 0, y249⟩ : S47) [.int .i64 0, .int .i64 0, .slice Ao9 y249.length co9] from (k47_mkF _ _ (⟨0, 0, y249⟩ : S47) (R_reads' (R_mono (ok' := (fun _ => True)) (HO251.out) (fun k_ hk => trivial))).2.1 (Kd.R_F (R_mono (ok' := (fun _ => True)) (HO251.out) (fun k_ hk => trivial))))) (Reps.c3 (show Kd.FK k47 _ _ (⟨0, 0, ([] : List Int)⟩ : S47) [.int .i64 0, .int .i64 0, .slice none 0 0] from (k47_mkF _ _ (⟨0, 0, ([] : List Int)⟩ : S47) (Nat.le_refl _) (Kd.F_nil _ _ _))) (Reps.none _ _)))))); intro v253 w10 ho11 hb hg_ hnew_; clear hg_ hnew_; rw [← Ny252.out] at ho11; have n0_ := Aside0.mk (Kd.N_lower ho11 (below_size (by repeat with_reducible first | exact HB.out | apply below_alloc | apply pw_below_drewN | apply below_drew1))); have n1_ := Aside0.mk (below_step (by repeat with_reducible first | exact HB.out | apply below_alloc | apply pw_below_drewN | apply below_drew1) hb); clear HB; clear HO245; clear HO248; clear HO251; have HO254 := n0_; have HB := n1_; clear n0_ n1_; clear hb ho11) | ((with_reducible refine gate_dst (N := 2) rfl ?_); (try (refine gate_guard (by rfl) ?_; dsimp only)); refine box_event ?hg (N := 2) ?hd (cs := #[.int .i64 0, .int .i64 0, .slice none 0 0, .slice none 0 0]) (t := 25) ?hr ?_; (case hd => rfl); (case hg => rfl); (case hr => first | (go_simp; done) | (go_simp; rfl)); intro gb255 hg w12 hbox hb; have n0_ := Aside0.mk (Kd.N_below (Kd.N_elderB (by (with_reducible repeat (first | apply Kd.N_alloc | apply Kd.N_drewN | apply Kd.N_drew)); exact HO254.out) gb255 (Nat.le_of_eq hg.symm)) hb); have n1_ := Aside0.mk (below_step (by repeat with_reducible first | exact HB.out | apply below_alloc | apply pw_below_drewN | apply below_drew1) hb); have n2_ := Aside0.mk (hbox); have n3_ := Aside0.mk ((by rw [hg]; exact (below_size (by repeat with_reducible first | exact HB.out | apply below_alloc | apply pw_below_drewN | apply below_drew1)) : w.heap.size ≤ gb255)); have n4_ := Aside0.mk ((by rw [hg]; exact (below_size (by repeat with_reducible first | exact HB.out | apply below_alloc | apply pw_below_drewN | apply below_drew1)) : w.heap.size ≤ gb255)); clear HO254; clear HB; have HO254 := n0_; have HB := n1_; have BK255 := n2_; have GW255 := n3_; have GE255 := n4_; clear n0_ n1_ n2_ n3_ n4_; clear hb hbox hg))
  go_loopg [3] k (fun kq v3 w' => ∃ (x3_1 : Int) (x256003_1 : List (S52)) (u256003 : Value), v3 = .int .i64 x3_1 ∧ Aside0 (fettlelaw06_up.l0 kq y252 x3_1 0 0 x256003_1 = some r) ∧ Aside0 (kq ≤ k) ∧ Aside0 (Kd.N k47 47 w' w.heap.size (fun k_ => some k_ ≠ (u256003 : Value).ownBlock ∧ k_ ≠ gb255) v253 y252) ∧ Aside0 (Kd.N k52 52 w' w.heap.size (fun k_ => some k_ ≠ (v253 : Value).ownBlock ∧ k_ ≠ gb255) u256003 x256003_1) ∧ Aside0 (w'.heap[gb255]? = some (.cells #[.int .i64 0, .int .i64 0, (.slice none 0 0), u256003] 25 (0, 0))) ∧ Aside0 (Below w.heap.size w w'))
  case atStart => exact ⟨(0), (([] : List (S52))), (.slice none 0 0), (by first | rfl | (simp; done) | (simp [*]; done)), H', ⟨Nat.le_refl _⟩, ⟨by (with_reducible repeat (first | apply Kd.N_alloc | apply Kd.N_drewN | apply Kd.N_drew)); exact Kd.N_mono HO254.out (fun _ hk => ⟨(by simp [Value.ownBlock]), hk.2⟩)⟩, ⟨by first | exact Kd.R_nil _ _ _ _ _ | exact Kd.N_nil _ _ _ _ _ | exact Kd.V_nil _ _ _ _ _ | exact Kd.Q_nil _ _ _ _ _ | exact Kd.S_nil _ _ _ _ _⟩, ⟨by (with_reducible repeat (first | refine blk_drewN ?_ _ | refine blk_drew ?_ | refine blk_alloc ?_ _)); exact BK255.out⟩, ⟨by repeat (first | (with_reducible first | exact HB.out | apply below_alloc | apply pw_below_drewN | apply below_drew1 | refine below_set ?_ GE255.out) | exact HB.out)⟩⟩
  clear H'
  try clear c1
  try clear p2
  try clear c3
  try clear c11
  obtain ⟨x3_1, x256003_1, u256003, rfl, HA, HK1, HO_1, HO_256003, BK255, HB⟩ := hrel
  rcases gk with _ | k1
  · exact absurd HA.out (by simp [fettlelaw06_up.l0])
  have H := HA.out
  clear HA
  simp only [fettlelaw06_up.l0] at H
  by_cases c13 : x3_1 < 4
  · rw [if_pos c13] at H
    have c13b0 : decide (x3_1 < 4) = true := decide_eq_true c13
    clear c13
    by_cases c14 : 0 ≤ x3_1
    rotate_left
    · rw [if_neg c14] at H
      exact absurd H (by simp)
    rw [if_pos c14] at H
    have c14b0 : decide (0 ≤ x3_1) = true := decide_eq_true c14
    clear c14
    by_cases c15 : x3_1 < (y252.length : Int)
    rotate_left
    · rw [if_neg c15] at H
      exact absurd H (by simp)
    rw [if_pos c15] at H
    have c15b0 : decide (x3_1 < (y252.length : Int)) = true := decide_eq_true c15
    clear c15
    by_cases c16 : x256003_1.length < 1599289640401
    rotate_left
    · rw [if_neg c16] at H
      exact absurd H (by simp)
    rw [if_pos c16] at H
    have LMc16 := Aside0.mk c16
    clear c16
    obtain ⟨y257, hy257⟩ : ∃ y_ : List (S52), y_ = (x256003_1 ++ [(⟨([] : List (S62)), ([] : List (S64)), (⟨(rd_T47 y252 x3_1).f0, (rd_T47 y252 x3_1).f1, (rd_T47 y252 x3_1).f2⟩ : S47)⟩ : S52)]) := ⟨_, rfl⟩
    replace H : (fettlelaw06_up.l0 k1 y252 (wrap64 (x3_1 + 1)) 0 0 y257) = some r := by first | (rw [hy257]; with_reducible exact H) | (have H2_ := (Option.bind_some _ _).symm.trans H; rw [hy257]; with_reducible exact H2_) | exact H
    have Ny257 := Aside0.mk hy257
    clear hy257
    have H' := Aside0.mk H
    clear H
    try go_wp2
    have n0_ := Aside0.mk (Kd.N_drew HO_1.out)
    have n1_ := Aside0.mk (Kd.N_drew HO_256003.out)
    have n2_ := Aside0.mk (blk_drew BK255.out)
    have n3_ := Aside0.mk (below_drew1 HB.out)
    clear HO_1
    clear HO_256003
    clear BK255
    clear HB
    have HO_1 := n0_
    have HO_256003 := n1_
    have BK255 := n2_
    have HB := n3_
    clear n0_ n1_ n2_ n3_
    obtain ⟨Ao18, co18, eo18⟩ := Kd.N_slice HO_1.out
    (first | subst eo18 | (injection eo18 with f1_ f2_ f3_; have f4_ := f1_.symm; have f5_ := f3_.symm; clear f1_ f2_ f3_; subst f4_; subst f5_))
    have p256 : 0 ≤ (x3_1 : Int) := of_decide_eq_true (by with_reducible assumption)
    have q256 : x3_1 < (y252.length : Int) := of_decide_eq_true (by with_reducible assumption)
    obtain ⟨ad256, A256_2, c256_2, e256, hx256_0, hx256_1, hx256_2, hl256_2, hi256_2⟩ := at_T47 (Kd.N_reads' HO_1.out).2.2 x3_1 p256 q256
    cases e256
    obtain ⟨ce256, hce256, hMe256, hcc256⟩ := Kd.N_get HO_1.out z47 x3_1 p256 (by first | exact q256 | exact of_decide_eq_true (by with_reducible assumption) | (have e_ := (Kd.N_reads' HO_1.out).1; omega))
    obtain ⟨ua256_2, uc256_2, rfl, ul256_2, ge256_2⟩ := k47_openF hMe256
    have hv256_2 := hcc256 2 _ rfl
    rw [add_field _ _ 2 (by omega)] at hv256_2
    replace hv256_2 := Option.some.inj (hv256_2.symm.trans hx256_2)
    injection hv256_2 with hva_ hvn_ hvc_
    rw [hva_] at ge256_2
    rw [hvc_] at ul256_2
    have HL256_2 := Aside0.mk (show Kd.V (Kd.int .i64) 3 _ w.heap.size _ _ ((rd_T47 y252 x3_1).f2) from Kd.V_mk ul256_2 ge256_2)
    clear hva_ hvn_ hvc_ ge256_2 ul256_2
    clear hcc256 hce256
    have HR256_2 := Aside0.mk hi256_2
    have HC256_2 := Aside0.mk hl256_2
    clear hi256_2 hl256_2
    replace p256 := eq_true p256
    replace q256 := eq_true q256
    refine start_ (n := 11) (S := fun w' => w'.cell? ⟨gb255, 0, none⟩ = some (.int .i64 0) ∧ w'.cell? ⟨gb255, 1, none⟩ = some (.int .i64 0) ∧ w'.cell? ⟨gb255, 2, none⟩ = some (.slice none 0 0) ∧ w'.cell? ⟨gb255, 3, none⟩ = some (u256003) ∧ w'.cell? (ad256.add ((x3_1).toNat * 3)) = some (.int .i64 ((rd_T47 y252 x3_1).f0)) ∧ w'.cell? ⟨(ad256.add ((x3_1).toNat * 3)).block, (ad256.add ((x3_1).toNat * 3)).off + 1, none⟩ = some (.int .i64 ((rd_T47 y252 x3_1).f1)) ∧ w'.cell? ⟨(ad256.add ((x3_1).toNat * 3)).block, (ad256.add ((x3_1).toNat * 3)).off + 2, none⟩ = some (.slice A256_2 ((rd_T47 y252 x3_1).f2).length c256_2)) (ds := [8, 10]) #[false, false, false, false, false, false, false, false, false, false, false] (by kernel_rfl) rfl rfl ⟨(blk_cell BK255.out 0).trans rfl, (blk_cell BK255.out 1).trans rfl, (blk_cell BK255.out 2).trans rfl, (blk_cell BK255.out 3).trans rfl, hx256_0, hx256_1, hx256_2⟩ (fun hHeld => ?_); refine with_tabW fettlelaw06_up.tab6 fettlelaw06_up.bits6 (fun HT_ HW_ => ?_)
    generalize wr.drew = w17 at HO_1 HO_256003 BK255 HB HL256_2 HR256_2 hx256_0 hx256_1 hx256_2 hHeld ⊢
    refine pu 0 18 (bt 11 1) HT_.out ?_
    refine pu 2 20 (bt 11 5) HT_.out ?_
    refine pu 3 21 (bt 11 13) HT_.out ?_
    refine pu 4 22 (bt 11 29) HT_.out ?_
    refine tk 1 19 (bt 11 31) HT_.out HW_.out hHeld rfl rfl (by rintro w' ⟨s0, s1, s2, s3, s4, s5, s6⟩; go_simp; with_reducible rfl) ?_
    refine tk 5 23 (bt 11 63) HT_.out HW_.out hHeld rfl rfl (by rintro w' ⟨s0, s1, s2, s3, s4, s5, s6⟩; go_simp; with_reducible rfl) ?_
    refine pu 6 24 (bt 11 127) HT_.out ?_
    refine one_ (i := 7) (N := some 25) (bt 11 255) rfl rfl (one_of HT_.out (by kernel_rfl)) (by decide) (fun K hK => ?_)
    refine value_ (w1 := ?_) (v := ?_) (by rfl) rfl ?_ ?_
    rotate_left 2
    · go_simp
      constructor
      · rfl
      rfl
    refine hK.out _ _ ⟨(blk_cell (blk_alloc BK255.out _) 0).trans rfl, (blk_cell (blk_alloc BK255.out _) 1).trans rfl, (blk_cell (blk_alloc BK255.out _) 2).trans rfl, (blk_cell (blk_alloc BK255.out _) 3).trans rfl, (World.cell?_alloc_lt _ _ _ (World.block_lt_of_cell? _ _ (hHeld.2.2.2.2.1))).trans (hHeld.2.2.2.2.1), (World.cell?_alloc_lt _ _ _ (World.block_lt_of_cell? _ _ (hHeld.2.2.2.2.2.1))).trans (hHeld.2.2.2.2.2.1), (World.cell?_alloc_lt _ _ _ (World.block_lt_of_cell? _ _ (hHeld.2.2.2.2.2.2))).trans (hHeld.2.2.2.2.2.2)⟩ (fun hHeld => ?_)
    clear hK K
    refine norm_ (a' := ?_) ?_ ?_
    rotate_left
    · show Act.put _ (some 25) _ = _
      simp only [Act.put, List.setIfInBounds_toArray, List.set_cons_zero, List.set_cons_succ, i64_w, i32_w]
      rfl
    refine last_ (i := 8) (N := some 26) (bt 11 511) rfl rfl (one_of HT_.out (by kernel_rfl)) (by decide) (fun K hK => ?_)
    refine Kd.N_append_step k52 (w0 := w) w.heap.size (by rfl) (.tmp 19) (.tmp 25) 23 52 (.agg #[(.slice none 0 0), (.slice none 0 0), (.int .i64 0), (.int .i64 0), (.slice none 0 0)]) 88 rfl Try.underlying23 info52 rfl (by decide) (by omega) u256003 x256003_1 (⟨([] : List (S62)), ([] : List (S64)), (⟨(rd_T47 y252 x3_1).f0, (rd_T47 y252 x3_1).f1, (rd_T47 y252 x3_1).f2⟩ : S47)⟩ : S52) [.slice none 0 0, .slice none 0 0, .int .i64 ((rd_T47 y252 x3_1).f0), .int .i64 ((rd_T47 y252 x3_1).f1), .slice A256_2 ((rd_T47 y252 x3_1).f2).length c256_2] (fun k_ => some k_ ≠ (.slice (some ad256) y252.length co18 : Value).ownBlock ∧ k_ ≠ gb255) (fun k_ => ((fun k_ => some k_ ≠ (.slice (some ad256) y252.length co18 : Value).ownBlock ∧ k_ ≠ gb255)) k_ ∧ some k_ ≠ (u256003 : Value).ownBlock) rfl rfl ?aP (fun _ hk => hk) ?aF ?aO ?aB ?aS ?aL ?_
    (case aP => exact (k52_mkF _ _ (⟨([] : List (S62)), ([] : List (S64)), (⟨(rd_T47 y252 x3_1).f0, (rd_T47 y252 x3_1).f1, (rd_T47 y252 x3_1).f2⟩ : S47)⟩ : S52) (Nat.le_refl _) (Kd.F_nil _ _ _) (Nat.le_refl _) (Kd.F_nil _ _ _) (Kd.V_reads' (Kd.V_mono (ok' := (fun k_ => ((fun k_ => some k_ ≠ (.slice (some ad256) y252.length co18 : Value).ownBlock ∧ k_ ≠ gb255)) k_ ∧ some k_ ≠ (u256003 : Value).ownBlock)) (HL256_2.out) (fun k_ hk => ⟨⟨hk.2, hk.1.2⟩, hk.1.1⟩))).2.1 (Kd.V_F (Kd.V_mono (ok' := (fun k_ => ((fun k_ => some k_ ≠ (.slice (some ad256) y252.length co18 : Value).ownBlock ∧ k_ ≠ gb255)) k_ ∧ some k_ ≠ (u256003 : Value).ownBlock)) (HL256_2.out) (fun k_ hk => ⟨⟨hk.2, hk.1.2⟩, hk.1.1⟩)))))
    (case aB => exact (by repeat with_reducible first | exact HB.out | apply below_alloc | apply pw_below_drewN | apply below_drew1 | refine below_set ?_ GE255.out))
    (case aF => exact (fun k_ hk => ⟨Kd.fresh' (Kd.N_lt (by (with_reducible repeat (first | apply Kd.N_alloc | apply Kd.N_drewN | apply Kd.N_drew)); exact HO_1.out)) k_ hk, Kd.freshB (g := gb255) (o := .cells #[.int .i64 0, .int .i64 0, .slice none 0 0, u256003] 25 (0, 0)) (by (with_reducible repeat (first | refine blk_drewN ?_ _ | refine blk_drew ?_ | refine blk_alloc ?_ _)); exact BK255.out) k_ hk⟩))
    (case aO => exact (by (with_reducible repeat (first | apply Kd.N_alloc | apply Kd.N_drewN | apply Kd.N_drew)); exact HO_256003.out))
    (case aS => exact (below_size (by repeat with_reducible first | exact HB.out | apply below_alloc | apply pw_below_drewN | apply below_drew1 | refine below_set ?_ GE255.out)))
    (case aL => have := LMc16.out; omega)
    intro v258 w19 ho hb hg hat
    rw [← Ny257.out] at ho
    have n0_ := Aside0.mk (Kd.N_afterv (ok := (fun k_ => k_ ≠ gb255)) (by (with_reducible repeat (first | apply Kd.N_alloc | apply Kd.N_drewN | apply Kd.N_drew)); exact Kd.N_mono HO_1.out (fun _ hk => ⟨hk.2, hk.1⟩)) hg hat)
    have n1_ := Aside0.mk (blk_grown (g := gb255) (o := .cells #[.int .i64 0, .int .i64 0, .slice none 0 0, u256003] 25 (0, 0)) (by (with_reducible repeat (first | refine blk_drewN ?_ _ | refine blk_drew ?_ | refine blk_alloc ?_ _)); exact BK255.out) hg (Kd.N_ne HO_256003.out BK255.out (by decide)))
    have n2_ := Aside0.mk (Kd.V_afterv (ok := (fun k_ => some k_ ≠ (.slice (some ad256) y252.length co18 : Value).ownBlock ∧ k_ ≠ gb255)) (by (with_reducible repeat (first | apply Kd.V_alloc | apply Kd.V_drewN | apply Kd.V_drew)); exact Kd.V_mono HL256_2.out (fun _ hk => ⟨⟨hk.2, hk.1.2⟩, hk.1.1⟩)) hg hat)
    have n3_ := Aside0.mk (hb)
    have n4_ := Aside0.mk (ho)
    clear HO_1
    clear BK255
    clear HL256_2
    clear HB
    clear HO_256003
    have HO_1 := n0_
    have BK255 := n1_
    have HL256_2 := n2_
    have HB := n3_
    have HO259 := n4_
    clear n0_ n1_ n2_ n3_ n4_
    clear ho hb hg hat
    obtain ⟨Ao20, co20, eo20⟩ := Kd.N_slice HO259.out
    (first | subst eo20 | (injection eo20 with f1_ f2_ f3_; have f4_ := f1_.symm; have f5_ := f3_.symm; clear f1_ f2_ f3_; subst f4_; subst f5_))
    refine hK.out _ _ ?_
    clear hK K
    refine norm_ (a' := ?_) ?_ ?_
    rotate_left
    · show Act.put _ (some 26) _ = _
      simp only [Act.put, List.setIfInBounds_toArray, List.set_cons_zero, List.set_cons_succ, i64_w, i32_w]
      rfl
    refine pu 9 27 (bt 11 1023) HT_.out ?_
    refine last_ (i := 10) (N := none) (bt 11 2047) rfl rfl (one_of HT_.out (by kernel_rfl)) (by decide) (fun K hK => ?_)
    have hs21 : w19.cell? ⟨gb255, 3, none⟩ = some (u256003) := (blk_cell BK255.out 3).trans rfl
    have hfs21 := blk_frozen BK255.out 3
    refine skip_ (w1 := ?_) (by rfl) rfl ?_ ?_
    rotate_left
    · go_simp
      rfl
    refine hK.out _ _ ?_
    clear hK K
    refine done_ (done_of HT_.out (by kernel_rfl)) ?_
    try go_wp2
    go_roundg k1
    case measure => have := HK1.out; omega
    case rel => exact ⟨(wrap64 (x3_1 + 1)), (y257), (.slice Ao20 y257.length co20), (by first | rfl | (simp; done) | (simp [*]; done)), H', ⟨by have := HK1.out; omega⟩, ⟨by (with_reducible repeat (first | apply Kd.N_alloc | apply Kd.N_drewN | apply Kd.N_drew)); exact Kd.N_mono (Kd.N_far (p := ⟨gb255, 3, none⟩) (Kd.N_mono HO_1.out (fun k_ hk => (⟨hk, hk.1⟩ : _ ∧ k_ ≠ gb255))) (fun _ hk => hk.2) (.slice Ao20 y257.length co20)) (fun _ hk => ⟨hk.1.2, hk.1.1⟩)⟩, ⟨by (with_reducible repeat (first | apply Kd.N_alloc | apply Kd.N_drewN | apply Kd.N_drew)); exact Kd.N_mono (Kd.N_far (p := ⟨gb255, 3, none⟩) (Kd.N_mono HO259.out (fun k_ hk => (⟨hk, hk.2⟩ : _ ∧ k_ ≠ gb255))) (fun _ hk => hk.2) (.slice Ao20 y257.length co20)) (fun _ hk => ⟨hk.1.1, hk.1.2⟩)⟩, ⟨by (with_reducible repeat (first | refine blk_drewN ?_ _ | refine blk_drew ?_ | refine blk_alloc ?_ _)); refine blk_put (cs := #[.int .i64 0, .int .i64 0, .slice none 0 0, u256003]) ?_ 3 _ rfl; (with_reducible repeat (first | refine blk_drewN ?_ _ | refine blk_drew ?_ | refine blk_alloc ?_ _)); exact BK255.out⟩, ⟨by repeat (first | (with_reducible first | exact HB.out | apply below_alloc | apply pw_below_drewN | apply below_drew1 | refine below_set ?_ GE255.out) | exact HB.out)⟩⟩
  rw [if_neg c13] at H
  have c13b0 : decide (x3_1 < 4) = false := decide_eq_false c13
  clear c13
  replace H := Option.bind_eq_some_iff.mp H
  obtain ⟨t260, A220, H⟩ := H
  replace H : ((dom_Frontier.f k1 0 0 ([] : List Int) x256003_1).bind fun t263 => ((fettlelaw05_Ints.f k1 t260 (([(-1), 0, 0, 0] : List Int))).bind fun t269 => (if t269 = true then (if (t263.length : Int) = 4 then (if 1 < (t263.length : Int) then ((fettlelaw05_Ints.f k1 (rd_L1 t263 1) (([3] : List Int))).bind fun t274 => (if t274 = true then (if 2 < (t263.length : Int) then ((fettlelaw05_Ints.f k1 (rd_L1 t263 2) (([3] : List Int))).bind fun t279 => (some t279)) else (none)) else (some false))) else (none)) else (some false)) else (some false)))) = some r := H
  have A22 := Aside0.mk A220
  clear A220
  replace H := Option.bind_eq_some_iff.mp H
  obtain ⟨t263, A230, H⟩ := H
  replace H : ((fettlelaw05_Ints.f k1 t260 (([(-1), 0, 0, 0] : List Int))).bind fun t269 => (if t269 = true then (if (t263.length : Int) = 4 then (if 1 < (t263.length : Int) then ((fettlelaw05_Ints.f k1 (rd_L1 t263 1) (([3] : List Int))).bind fun t274 => (if t274 = true then (if 2 < (t263.length : Int) then ((fettlelaw05_Ints.f k1 (rd_L1 t263 2) (([3] : List Int))).bind fun t279 => (some t279)) else (none)) else (some false))) else (none)) else (some false)) else (some false))) = some r := H
  have A23 := Aside0.mk A230
  clear A230
  obtain ⟨y266, hy266⟩ : ∃ y_ : List Int, y_ = (([(-1), 0, 0, 0] : List Int)) := ⟨_, rfl⟩
  replace H : ((fettlelaw05_Ints.f k1 t260 y266).bind fun t269 => (if t269 = true then (if (t263.length : Int) = 4 then (if 1 < (t263.length : Int) then ((fettlelaw05_Ints.f k1 (rd_L1 t263 1) (([3] : List Int))).bind fun t274 => (if t274 = true then (if 2 < (t263.length : Int) then ((fettlelaw05_Ints.f k1 (rd_L1 t263 2) (([3] : List Int))).bind fun t279 => (some t279)) else (none)) else (some false))) else (none)) else (some false)) else (some false))) = some r := by first | (rw [hy266]; with_reducible exact H) | (have H2_ := (Option.bind_some _ _).symm.trans H; rw [hy266]; with_reducible exact H2_) | exact H
  have Ny266 := Aside0.mk hy266
  clear hy266
  replace H := Option.bind_eq_some_iff.mp H
  obtain ⟨t269, A240, H⟩ := H
  replace H : (if t269 = true then (if (t263.length : Int) = 4 then (if 1 < (t263.length : Int) then ((fettlelaw05_Ints.f k1 (rd_L1 t263 1) (([3] : List Int))).bind fun t274 => (if t274 = true then (if 2 < (t263.length : Int) then ((fettlelaw05_Ints.f k1 (rd_L1 t263 2) (([3] : List Int))).bind fun t279 => (some t279)) else (none)) else (some false))) else (none)) else (some false)) else (some false)) = some r := H
  have A24 := Aside0.mk A240
  clear A240
  by_cases c25 : t269 = true
  · subst c25
    have H1 : (if (t263.length : Int) = 4 then (if 1 < (t263.length : Int) then ((fettlelaw05_Ints.f k1 (rd_L1 t263 1) (([3] : List Int))).bind fun t274 => (if t274 = true then (if 2 < (t263.length : Int) then ((fettlelaw05_Ints.f k1 (rd_L1 t263 2) (([3] : List Int))).bind fun t279 => (some t279)) else (none)) else (some false))) else (none)) else (some false)) = some r := by rw [if_pos rfl] at H; exact H
    clear H
    have H := H1
    clear H1
    by_cases c26 : (t263.length : Int) = 4
    · rw [if_pos c26] at H
      have c26b0 : ((t263.length : Int) == 4) = true := beq_iff_eq.mpr c26
      have c26b1 : ((t263.length : Int) != 4) = false := bne_eq_false_iff_eq.mpr c26
      clear c26
      by_cases c27 : 1 < (t263.length : Int)
      rotate_left
      · rw [if_neg c27] at H
        exact absurd H (by simp)
      rw [if_pos c27] at H
      have c27b0 : decide (1 < (t263.length : Int)) = true := decide_eq_true c27
      have c27b1 : decide (1 < t263.length) = true := decide_eq_true (by omega)
      clear c27
      obtain ⟨y271, hy271⟩ : ∃ y_ : List Int, y_ = (([3] : List Int)) := ⟨_, rfl⟩
      replace H : ((fettlelaw05_Ints.f k1 (rd_L1 t263 1) y271).bind fun t274 => (if t274 = true then (if 2 < (t263.length : Int) then ((fettlelaw05_Ints.f k1 (rd_L1 t263 2) (([3] : List Int))).bind fun t279 => (some t279)) else (none)) else (some false))) = some r := by first | (rw [hy271]; with_reducible exact H) | (have H2_ := (Option.bind_some _ _).symm.trans H; rw [hy271]; with_reducible exact H2_) | exact H
      have Ny271 := Aside0.mk hy271
      clear hy271
      replace H := Option.bind_eq_some_iff.mp H
      obtain ⟨t274, A280, H⟩ := H
      replace H : (if t274 = true then (if 2 < (t263.length : Int) then ((fettlelaw05_Ints.f k1 (rd_L1 t263 2) (([3] : List Int))).bind fun t279 => (some t279)) else (none)) else (some false)) = some r := H
      have A28 := Aside0.mk A280
      clear A280
      by_cases c29 : t274 = true
      · subst c29
        have H1 : (if 2 < (t263.length : Int) then ((fettlelaw05_Ints.f k1 (rd_L1 t263 2) (([3] : List Int))).bind fun t279 => (some t279)) else (none)) = some r := by rw [if_pos rfl] at H; exact H
        clear H
        have H := H1
        clear H1
        by_cases c30 : 2 < (t263.length : Int)
        rotate_left
        · rw [if_neg c30] at H
          exact absurd H (by simp)
        rw [if_pos c30] at H
        have c30b0 : decide (2 < (t263.length : Int)) = true := decide_eq_true c30
        have c30b1 : decide (2 < t263.length) = true := decide_eq_true (by omega)
        clear c30
        obtain ⟨y276, hy276⟩ : ∃ y_ : List Int, y_ = (([3] : List Int)) := ⟨_, rfl⟩
        replace H : ((fettlelaw05_Ints.f k1 (rd_L1 t263 2) y276).bind fun t279 => (some t279)) = some r := by first | (rw [hy276]; with_reducible exact H) | (have H2_ := (Option.bind_some _ _).symm.trans H; rw [hy276]; with_reducible exact H2_) | exact H
        have Ny276 := Aside0.mk hy276
        clear hy276
        replace H := Option.bind_eq_some_iff.mp H
        obtain ⟨t279, A310, H⟩ := H
        replace H : (some t279) = some r := H
        have A31 := Aside0.mk A310
        clear A310
        obtain rfl := Option.some.inj H
        have hcz32_0 : wr.cell? ⟨gb255, 0, none⟩ = some (.int .i64 0) := (blk_cell BK255.out 0).trans rfl
        have hcz32_1 : wr.cell? ⟨gb255, 1, none⟩ = some (.int .i64 0) := (blk_cell BK255.out 1).trans rfl
        have hcz32_2 : wr.cell? ⟨gb255, 2, none⟩ = some (.slice none 0 0) := (blk_cell BK255.out 2).trans rfl
        have hcz32_3 : wr.cell? ⟨gb255, 3, none⟩ = some (u256003) := (blk_cell BK255.out 3).trans rfl
        have hfz32_0 := blk_frozen BK255.out 0
        have hfz32_1 := blk_frozen BK255.out 1
        have hfz32_2 := blk_frozen BK255.out 2
        have hfz32_3 := blk_frozen BK255.out 3
        obtain ⟨Ao33, co33, eo33⟩ := Kd.N_slice HO_256003.out
        subst eo33
        go_wp2_with (first | ((with_reducible refine gate_callee (f := 20) rfl ?_); refine goesL_ (some 29) rfl rfl Try.func20 (by kernel_rfl) rfl #[.agg #[.int .i64 0, .int .i64 0, .slice none 0 0, .slice Ao33 x256003_1.length co33]] rfl (by (try simp only [List.map_toArray, List.map_cons, List.map_nil]); first | done | rfl) ?_; (refine (dom_Nearest.calls k1 0 0 _ _ ([] : List Int) _ _ x256003_1 t260 _ ?side1 ?side2 ?side3 ?side4 A22.out).mono ?_); (case side1 => exact Kd.C_nil _ _); (case side2 => exact Nat.le_refl _); (case side3 => repeat (first | exact (Kd.N_reads' HO_256003.out).2.2 | (with_reducible refine C_alloc ?_ _) | (with_reducible refine C_drewN ?_ _) | (with_reducible refine C_drew ?_))); (case side4 => exact (Kd.N_reads' HO_256003.out).2.1); rintro e w34 ⟨v261, rfl, ho0, hb⟩; refine ⟨_, rfl, ?_⟩; have n0_ := Aside0.mk (Kd.N_elder' (by (with_reducible repeat (first | apply Kd.N_alloc | apply Kd.N_drewN | apply Kd.N_drew)); exact HO_1.out) (R_base ho0) hb); have n1_ := Aside0.mk (Kd.N_elder' (by (with_reducible repeat (first | apply Kd.N_alloc | apply Kd.N_drewN | apply Kd.N_drew)); exact HO_256003.out) (R_base ho0) hb); have n2_ := Aside0.mk (Kd.R_lower ho0 (below_size (by repeat with_reducible first | exact HB.out | apply below_alloc | apply pw_below_drewN | apply below_drew1 | refine below_set ?_ GE255.out))); have n3_ := Aside0.mk (blk_below (g := gb255) (o := .cells #[.int .i64 0, .int .i64 0, .slice none 0 0, .slice Ao33 x256003_1.length co33] 25 (0, 0)) (by (with_reducible repeat (first | refine blk_drewN ?_ _ | refine blk_drew ?_ | refine blk_alloc ?_ _)); exact BK255.out) hb); have n4_ := Aside0.mk (below_step (by repeat with_reducible first | exact HB.out | apply below_alloc | apply pw_below_drewN | apply below_drew1 | refine below_set ?_ GE255.out) hb); clear HO_1; clear HO_256003; clear BK255; clear HB; have HO_1 := n0_; have HO_256003 := n1_; have HO262 := n2_; have BK255 := n3_; have HB := n4_; clear n0_ n1_ n2_ n3_ n4_; (try clear hb); (try clear hb2); (try clear hk); (try clear hi); (try clear ho0); have hcz35_0 : w34.cell? ⟨gb255, 0, none⟩ = some (.int .i64 0) := (blk_cell BK255.out 0).trans rfl; have hcz35_1 : w34.cell? ⟨gb255, 1, none⟩ = some (.int .i64 0) := (blk_cell BK255.out 1).trans rfl; have hcz35_2 : w34.cell? ⟨gb255, 2, none⟩ = some (.slice none 0 0) := (blk_cell BK255.out 2).trans rfl; have hcz35_3 : w34.cell? ⟨gb255, 3, none⟩ = some (.slice Ao33 x256003_1.length co33) := (blk_cell BK255.out 3).trans rfl; have hfz35_0 := blk_frozen BK255.out 0; have hfz35_1 := blk_frozen BK255.out 1; have hfz35_2 := blk_frozen BK255.out 2; have hfz35_3 := blk_frozen BK255.out 3) | ((with_reducible refine gate_callee (f := 13) rfl ?_); refine goesL_ (some 31) rfl rfl Try.func13 (by kernel_rfl) rfl #[.agg #[.int .i64 0, .int .i64 0, .slice none 0 0, .slice Ao33 x256003_1.length co33]] rfl (by (try simp only [List.map_toArray, List.map_cons, List.map_nil]); first | done | rfl) ?_; (refine (dom_Frontier.calls k1 0 0 _ _ ([] : List Int) _ _ x256003_1 t263 _ ?side1 ?side2 ?side3 ?side4 A23.out).mono ?_); (case side1 => exact Kd.C_nil _ _); (case side2 => exact Nat.le_refl _); (case side3 => repeat (first | exact (Kd.N_reads' HO_256003.out).2.2 | (with_reducible refine C_alloc ?_ _) | (with_reducible refine C_drewN ?_ _) | (with_reducible refine C_drew ?_))); (case side4 => exact (Kd.N_reads' HO_256003.out).2.1); rintro e w36 ⟨v264, rfl, ho0, hb⟩; refine ⟨_, rfl, ?_⟩; have n0_ := Aside0.mk (Kd.N_elder' (by (with_reducible repeat (first | apply Kd.N_alloc | apply Kd.N_drewN | apply Kd.N_drew)); exact HO_1.out) (Kd.S_base ho0) hb); have n1_ := Aside0.mk (Kd.N_elder' (by (with_reducible repeat (first | apply Kd.N_alloc | apply Kd.N_drewN | apply Kd.N_drew)); exact HO_256003.out) (Kd.S_base ho0) hb); have n2_ := Aside0.mk (Kd.R_below (by (with_reducible repeat (first | apply R_alloc | apply R_drewN | apply R_drew)); exact HO262.out) hb); have n3_ := Aside0.mk (Kd.N_lower (Kd.N_mono (ok' := fun k_ => some k_ ≠ (v253 : Value).ownBlock ∧ some k_ ≠ (.slice Ao33 x256003_1.length co33 : Value).ownBlock ∧ some k_ ≠ (v261 : Value).ownBlock ∧ k_ ≠ gb255) (Kd.S_N (Kd.S_bound ho0)) (fun k_ hk_ => ⟨(Kd.fresh' (Kd.N_lt (by (with_reducible repeat (first | apply Kd.N_alloc | apply Kd.N_drewN | apply Kd.N_drew)); exact HO_1.out)) k_ hk_.2.1), (Kd.fresh' (Kd.N_lt (by (with_reducible repeat (first | apply Kd.N_alloc | apply Kd.N_drewN | apply Kd.N_drew)); exact HO_256003.out)) k_ hk_.2.1), (Kd.fresh' (R_lt (by (with_reducible repeat (first | apply R_alloc | apply R_drewN | apply R_drew)); exact HO262.out)) k_ hk_.2.1), (Kd.freshB (g := gb255) (o := .cells #[.int .i64 0, .int .i64 0, .slice none 0 0, .slice Ao33 x256003_1.length co33] 25 (0, 0)) (by (with_reducible repeat (first | refine blk_drewN ?_ _ | refine blk_drew ?_ | refine blk_alloc ?_ _)); exact BK255.out) k_ hk_.2.1)⟩)) (below_size (by repeat with_reducible first | exact HB.out | apply below_alloc | apply pw_below_drewN | apply below_drew1 | refine below_set ?_ GE255.out))); have n4_ := Aside0.mk (blk_below (g := gb255) (o := .cells #[.int .i64 0, .int .i64 0, .slice none 0 0, .slice Ao33 x256003_1.length co33] 25 (0, 0)) (by (with_reducible repeat (first | refine blk_drewN ?_ _ | refine blk_drew ?_ | refine blk_alloc ?_ _)); exact BK255.out) hb); have n5_ := Aside0.mk (below_step (by repeat with_reducible first | exact HB.out | apply below_alloc | apply pw_below_drewN | apply below_drew1 | refine below_set ?_ GE255.out) hb); clear HO_1; clear HO_256003; clear HO262; clear BK255; clear HB; have HO_1 := n0_; have HO_256003 := n1_; have HO262 := n2_; have HO265 := n3_; have BK255 := n4_; have HB := n5_; clear n0_ n1_ n2_ n3_ n4_ n5_; (try clear hb); (try clear hb2); (try clear hk); (try clear hi); (try clear ho0)) | ((with_reducible refine gate_dst (N := 33) rfl ?_); (try (refine gate_guard (by rfl) ?_; dsimp only)); refine Kd.R_lit (Kd.int .i64) _ 3 ?hg (N := 33) ?hd (xs := ([(-1), 0, 0, 0] : List Int)) (inner := [.int .i64 (-1), .int .i64 0, .int .i64 0, .int .i64 0]) (ok := fun _ => True) (okp := fun _ => True) ?hr ?hp (fun _ hk => hk) trivial (Below.refl _ _) (Nat.le_refl _) (by simp) ?_; (case hd => rfl); (case hg => rfl); (case hr => first | (go_simp; done) | (go_simp; rfl)); (case hp => exact (Reps.one (show Kd.M (Kd.int .i64) _ _ _ (-1) [.int .i64 (-1)] from rfl) (Reps.one (show Kd.M (Kd.int .i64) _ _ _ 0 [.int .i64 0] from rfl) (Reps.one (show Kd.M (Kd.int .i64) _ _ _ 0 [.int .i64 0] from rfl) (Reps.one (show Kd.M (Kd.int .i64) _ _ _ 0 [.int .i64 0] from rfl) (Reps.none _ _)))))); intro v267 w37 ho38 hb hg_ hnew_; clear hg_ hnew_; rw [← Ny266.out] at ho38; have n0_ := Aside0.mk (Kd.N_elder' (by (with_reducible repeat (first | apply Kd.N_alloc | apply Kd.N_drewN | apply Kd.N_drew)); exact HO_1.out) (R_base ho38) hb); have n1_ := Aside0.mk (Kd.N_elder' (by (with_reducible repeat (first | apply Kd.N_alloc | apply Kd.N_drewN | apply Kd.N_drew)); exact HO_256003.out) (R_base ho38) hb); have n2_ := Aside0.mk (R_elder' (by (with_reducible repeat (first | apply R_alloc | apply R_drewN | apply R_drew)); exact HO262.out) (R_base ho38) hb); have n3_ := Aside0.mk (Kd.N_elder' (by (with_reducible repeat (first | apply Kd.N_alloc | apply Kd.N_drewN | apply Kd.N_drew)); exact HO265.out) (R_base ho38) hb); have n4_ := Aside0.mk (Kd.R_lower (R_new' ho38 (R_lt (by (with_reducible repeat (first | apply R_alloc | apply R_drewN | apply R_drew)); exact HO262.out))) (below_size (by repeat with_reducible first | exact HB.out | apply below_alloc | apply pw_below_drewN | apply below_drew1 | refine below_set ?_ GE255.out))); have n5_ := Aside0.mk (blk_below (g := gb255) (o := .cells #[.int .i64 0, .int .i64 0, .slice none 0 0, .slice Ao33 x256003_1.length co33] 25 (0, 0)) (by (with_reducible repeat (first | refine blk_drewN ?_ _ | refine blk_drew ?_ | refine blk_alloc ?_ _)); exact BK255.out) hb); have n6_ := Aside0.mk (below_step (by repeat with_reducible first | exact HB.out | apply below_alloc | apply pw_below_drewN | apply below_drew1 | refine below_set ?_ GE255.out) hb); clear HO_1; clear HO_256003; clear HO262; clear HO265; clear BK255; clear HB; have HO_1 := n0_; have HO_256003 := n1_; have HO262 := n2_; have HO265 := n3_; have HO268 := n4_; have BK255 := n5_; have HB := n6_; clear n0_ n1_ n2_ n3_ n4_ n5_ n6_; clear hb ho38; obtain ⟨Ao39, co39, eo39⟩ := Kd.R_slice HO262.out; subst eo39; obtain ⟨Ao40, co40, eo40⟩ := Kd.R_slice HO268.out; subst eo40) | ((with_reducible refine gate_callee (f := 15) rfl ?_); refine goesL_ (some 34) rfl rfl Try.func15 (by kernel_rfl) rfl #[.slice Ao39 t260.length co39, .slice Ao40 y266.length co40] rfl (by (try simp only [List.map_toArray, List.map_cons, List.map_nil]); first | done | rfl) ?_; (with_reducible refine (fettlelaw05_Ints.calls k1 _ _ t260 _ _ y266 true _ ?side1 ?side2 ?side3 ?side4 A24.out).mono ?_); (case side1 => repeat (first | exact (R_reads' HO262.out).2.2 | (with_reducible refine C_alloc ?_ _) | (with_reducible refine C_drewN ?_ _) | (with_reducible refine C_drew ?_))); (case side2 => exact (R_reads' HO262.out).2.1); (case side3 => repeat (first | exact (R_reads' HO268.out).2.2 | (with_reducible refine C_alloc ?_ _) | (with_reducible refine C_drewN ?_ _) | (with_reducible refine C_drew ?_))); (case side4 => exact (R_reads' HO268.out).2.1); rintro e w' ⟨rfl, ⟨nd, rfl⟩⟩; refine ⟨_, rfl, ?_⟩; obtain ⟨Ao41, co41, eo41⟩ := Kd.N_slice HO265.out; subst eo41; have p270 : 0 ≤ (1 : Int) := (by omega); have q270 : 1 < (t263.length : Int) := of_decide_eq_true (by with_reducible assumption); obtain ⟨ad270, A270_0, c270_0, e270, hx270_0, hl270_0, hi270_0⟩ := at_L1 (Kd.N_reads' HO265.out).2.2 1 p270 q270; cases e270; obtain ⟨ce270, hce270, hMe270, hcc270⟩ := Kd.N_get HO265.out [] 1 p270 (by first | exact q270 | exact of_decide_eq_true (by with_reducible assumption) | (have e_ := (Kd.N_reads' HO265.out).1; omega)); obtain ⟨ua270_0, uc270_0, rfl, ul270_0, ge270_0⟩ := Kd.FK_slice_open hMe270; have hv270_0 := hcc270 0 _ rfl; rw [Nat.add_zero, show ((Kd.slice 3 (Kd.int .i64))).sz = 1 from rfl, Nat.mul_one] at hv270_0; replace hv270_0 := Option.some.inj (hv270_0.symm.trans hx270_0); injection hv270_0 with hva_ hvn_ hvc_; rw [hva_] at ge270_0; rw [hvc_] at ul270_0; have HL270_0 := Aside0.mk (show Kd.V (Kd.int .i64) 3 _ w.heap.size _ _ (rd_L1 t263 1) from Kd.V_mk ul270_0 ge270_0); clear hva_ hvn_ hvc_ ge270_0 ul270_0; clear hcc270 hce270; (try simp only [show (1 : Int).toNat = 1 from rfl, Nat.reduceMul, Nat.reduceEqDiff, Go.Addr.add, ↓reduceIte] at hx270_0); have qi270 : (1 < t263.length) = True := eq_true (by omega); (try rw [show ((1 : Int)).toNat = 1 from rfl] at hx270_0); have HR270_0 := Aside0.mk hi270_0; have HC270_0 := Aside0.mk hl270_0; clear hi270_0 hl270_0; replace p270 := eq_true p270; replace q270 := eq_true q270) | ((with_reducible refine gate_dst (N := 44) rfl ?_); (try (refine gate_guard (by rfl) ?_; dsimp only)); refine Kd.R_lit (Kd.int .i64) _ 3 ?hg (N := 44) ?hd (xs := ([3] : List Int)) (inner := [.int .i64 3]) (ok := fun _ => True) (okp := fun _ => True) ?hr ?hp (fun _ hk => hk) trivial (Below.refl _ _) (Nat.le_refl _) (by simp) ?_; (case hd => rfl); (case hg => rfl); (case hr => first | (go_simp; done) | (go_simp; rfl)); (case hp => exact (Reps.one (show Kd.M (Kd.int .i64) _ _ _ 3 [.int .i64 3] from rfl) (Reps.none _ _))); intro v272 w42 ho43 hb hg_ hnew_; clear hg_ hnew_; rw [← Ny271.out] at ho43; have n0_ := Aside0.mk (Kd.N_elder' (by (with_reducible repeat (first | apply Kd.N_alloc | apply Kd.N_drewN | apply Kd.N_drew)); exact HO_1.out) (R_base ho43) hb); have n1_ := Aside0.mk (Kd.N_elder' (by (with_reducible repeat (first | apply Kd.N_alloc | apply Kd.N_drewN | apply Kd.N_drew)); exact HO_256003.out) (R_base ho43) hb); have n2_ := Aside0.mk (R_elder' (by (with_reducible repeat (first | apply R_alloc | apply R_drewN | apply R_drew)); exact HO262.out) (R_base ho43) hb); have n3_ := Aside0.mk (Kd.N_elder' (by (with_reducible repeat (first | apply Kd.N_alloc | apply Kd.N_drewN | apply Kd.N_drew)); exact HO265.out) (R_base ho43) hb); have n4_ := Aside0.mk (R_elder' (by (with_reducible repeat (first | apply R_alloc | apply R_drewN | apply R_drew)); exact HO268.out) (R_base ho43) hb); have n5_ := Aside0.mk (Kd.V_elder' (by (with_reducible repeat (first | apply Kd.V_alloc | apply Kd.V_drewN | apply Kd.V_drew)); exact HL270_0.out) (R_base ho43) hb); have n6_ := Aside0.mk (Kd.R_lower (R_new' (R_new' ho43 (R_lt (by (with_reducible repeat (first | apply R_alloc | apply R_drewN | apply R_drew)); exact HO262.out))) (R_lt (by (with_reducible repeat (first | apply R_alloc | apply R_drewN | apply R_drew)); exact HO268.out))) (below_size (by repeat with_reducible first | exact HB.out | apply below_alloc | apply pw_below_drewN | apply below_drew1 | refine below_set ?_ GE255.out))); have n7_ := Aside0.mk (blk_below (g := gb255) (o := .cells #[.int .i64 0, .int .i64 0, .slice none 0 0, .slice Ao33 x256003_1.length co33] 25 (0, 0)) (by (with_reducible repeat (first | refine blk_drewN ?_ _ | refine blk_drew ?_ | refine blk_alloc ?_ _)); exact BK255.out) hb); have n8_ := Aside0.mk (C_below (by first | (with_reducible exact HR270_0.out) | (with_reducible exact C_drewN HR270_0.out _) | (repeat with_reducible first | exact HR270_0.out | refine C_alloc ?_ _ | refine C_drewN ?_ _ | refine C_drew ?_)) hb); have n9_ := Aside0.mk (below_step (by repeat with_reducible first | exact HB.out | apply below_alloc | apply pw_below_drewN | apply below_drew1 | refine below_set ?_ GE255.out) hb); clear HO_1; clear HO_256003; clear HO262; clear HO265; clear HO268; clear HL270_0; clear BK255; clear HR270_0; clear HB; have HO_1 := n0_; have HO_256003 := n1_; have HO262 := n2_; have HO265 := n3_; have HO268 := n4_; have HL270_0 := n5_; have HO273 := n6_; have BK255 := n7_; have HR270_0 := n8_; have HB := n9_; clear n0_ n1_ n2_ n3_ n4_ n5_ n6_ n7_ n8_ n9_; clear hb ho43; obtain ⟨Ao44, co44, eo44⟩ := Kd.R_slice HO273.out; subst eo44) | (go_at_call 15; (with_reducible refine (fettlelaw05_Ints.calls k1 _ _ (rd_L1 t263 1) _ _ y271 true _ ?side1 ?side2 ?side3 ?side4 A28.out).mono ?_); (case side1 => repeat (first | exact (by repeat with_reducible first | exact HR270_0.out | refine C_alloc ?_ _ | refine C_drewN ?_ _ | refine C_drew ?_) | (with_reducible refine C_alloc ?_ _) | (with_reducible refine C_drewN ?_ _) | (with_reducible refine C_drew ?_))); (case side2 => exact HC270_0.out); (case side3 => repeat (first | exact (R_reads' HO273.out).2.2 | (with_reducible refine C_alloc ?_ _) | (with_reducible refine C_drewN ?_ _) | (with_reducible refine C_drew ?_))); (case side4 => exact (R_reads' HO273.out).2.1); rintro e w' ⟨rfl, ⟨nd, rfl⟩⟩; have p275 : 0 ≤ (2 : Int) := (by omega); have q275 : 2 < (t263.length : Int) := of_decide_eq_true (by with_reducible assumption); obtain ⟨ad275, A275_0, c275_0, e275, hx275_0, hl275_0, hi275_0⟩ := at_L1 (Kd.N_reads' HO265.out).2.2 2 p275 q275; obtain rfl : ad270 = ad275 := (by injection e275); obtain ⟨ce275, hce275, hMe275, hcc275⟩ := Kd.N_get HO265.out [] 2 p275 (by first | exact q275 | exact of_decide_eq_true (by with_reducible assumption) | (have e_ := (Kd.N_reads' HO265.out).1; omega)); obtain ⟨ua275_0, uc275_0, rfl, ul275_0, ge275_0⟩ := Kd.FK_slice_open hMe275; have hv275_0 := hcc275 0 _ rfl; rw [Nat.add_zero, show ((Kd.slice 3 (Kd.int .i64))).sz = 1 from rfl, Nat.mul_one] at hv275_0; replace hv275_0 := Option.some.inj (hv275_0.symm.trans hx275_0); injection hv275_0 with hva_ hvn_ hvc_; rw [hva_] at ge275_0; rw [hvc_] at ul275_0; have HL275_0 := Aside0.mk (show Kd.V (Kd.int .i64) 3 _ w.heap.size _ _ (rd_L1 t263 2) from Kd.V_mk ul275_0 ge275_0); clear hva_ hvn_ hvc_ ge275_0 ul275_0; clear hcc275 hce275; (try simp only [show (2 : Int).toNat = 2 from rfl, Nat.reduceMul, Nat.reduceEqDiff, Go.Addr.add, ↓reduceIte] at hx275_0); have qi275 : (2 < t263.length) = True := eq_true (by omega); (try rw [show ((2 : Int)).toNat = 2 from rfl] at hx275_0); have HR275_0 := Aside0.mk hi275_0; have HC275_0 := Aside0.mk hl275_0; clear hi275_0 hl275_0; replace p275 := eq_true p275; replace q275 := eq_true q275) | ((with_reducible refine gate_dst (N := 51) rfl ?_); (try (refine gate_guard (by rfl) ?_; dsimp only)); refine Kd.R_lit (Kd.int .i64) _ 3 ?hg (N := 51) ?hd (xs := ([3] : List Int)) (inner := [.int .i64 3]) (ok := fun _ => True) (okp := fun _ => True) ?hr ?hp (fun _ hk => hk) trivial (Below.refl _ _) (Nat.le_refl _) (by simp) ?_; (case hd => rfl); (case hg => rfl); (case hr => first | (go_simp; done) | (go_simp; rfl)); (case hp => exact (Reps.one (show Kd.M (Kd.int .i64) _ _ _ 3 [.int .i64 3] from rfl) (Reps.none _ _))); intro v277 w45 ho46 hb hg_ hnew_; clear hg_ hnew_; rw [← Ny276.out] at ho46; have n0_ := Aside0.mk (Kd.N_elder' (by (with_reducible repeat (first | apply Kd.N_alloc | apply Kd.N_drewN | apply Kd.N_drew)); exact HO_1.out) (R_base ho46) hb); have n1_ := Aside0.mk (Kd.N_elder' (by (with_reducible repeat (first | apply Kd.N_alloc | apply Kd.N_drewN | apply Kd.N_drew)); exact HO_256003.out) (R_base ho46) hb); have n2_ := Aside0.mk (R_elder' (by (with_reducible repeat (first | apply R_alloc | apply R_drewN | apply R_drew)); exact HO262.out) (R_base ho46) hb); have n3_ := Aside0.mk (Kd.N_elder' (by (with_reducible repeat (first | apply Kd.N_alloc | apply Kd.N_drewN | apply Kd.N_drew)); exact HO265.out) (R_base ho46) hb); have n4_ := Aside0.mk (R_elder' (by (with_reducible repeat (first | apply R_alloc | apply R_drewN | apply R_drew)); exact HO268.out) (R_base ho46) hb); have n5_ := Aside0.mk (Kd.V_elder' (by (with_reducible repeat (first | apply Kd.V_alloc | apply Kd.V_drewN | apply Kd.V_drew)); exact HL270_0.out) (R_base ho46) hb); have n6_ := Aside0.mk (R_elder' (by (with_reducible repeat (first | apply R_alloc | apply R_drewN | apply R_drew)); exact HO273.out) (R_base ho46) hb); have n7_ := Aside0.mk (Kd.V_elder' (by (with_reducible repeat (first | apply Kd.V_alloc | apply Kd.V_drewN | apply Kd.V_drew)); exact HL275_0.out) (R_base ho46) hb); have n8_ := Aside0.mk (Kd.R_lower (R_new' (R_new' (R_new' ho46 (R_lt (by (with_reducible repeat (first | apply R_alloc | apply R_drewN | apply R_drew)); exact HO262.out))) (R_lt (by (with_reducible repeat (first | apply R_alloc | apply R_drewN | apply R_drew)); exact HO268.out))) (R_lt (by (with_reducible repeat (first | apply R_alloc | apply R_drewN | apply R_drew)); exact HO273.out))) (below_size (by repeat with_reducible first | exact HB.out | apply below_alloc | apply pw_below_drewN | apply below_drew1 | refine below_set ?_ GE255.out))); have n9_ := Aside0.mk (blk_below (g := gb255) (o := .cells #[.int .i64 0, .int .i64 0, .slice none 0 0, .slice Ao33 x256003_1.length co33] 25 (0, 0)) (by (with_reducible repeat (first | refine blk_drewN ?_ _ | refine blk_drew ?_ | refine blk_alloc ?_ _)); exact BK255.out) hb); have n10_ := Aside0.mk (C_below (by first | (with_reducible exact HR270_0.out) | (with_reducible exact C_drewN HR270_0.out _) | (repeat with_reducible first | exact HR270_0.out | refine C_alloc ?_ _ | refine C_drewN ?_ _ | refine C_drew ?_)) hb); have n11_ := Aside0.mk (C_below (by first | (with_reducible exact HR275_0.out) | (with_reducible exact C_drewN HR275_0.out _) | (repeat with_reducible first | exact HR275_0.out | refine C_alloc ?_ _ | refine C_drewN ?_ _ | refine C_drew ?_)) hb); have n12_ := Aside0.mk (below_step (by repeat with_reducible first | exact HB.out | apply below_alloc | apply pw_below_drewN | apply below_drew1 | refine below_set ?_ GE255.out) hb); clear HO_1; clear HO_256003; clear HO262; clear HO265; clear HO268; clear HL270_0; clear HO273; clear HL275_0; clear BK255; clear HR270_0; clear HR275_0; clear HB; have HO_1 := n0_; have HO_256003 := n1_; have HO262 := n2_; have HO265 := n3_; have HO268 := n4_; have HL270_0 := n5_; have HO273 := n6_; have HL275_0 := n7_; have HO278 := n8_; have BK255 := n9_; have HR270_0 := n10_; have HR275_0 := n11_; have HB := n12_; clear n0_ n1_ n2_ n3_ n4_ n5_ n6_ n7_ n8_ n9_ n10_ n11_ n12_; clear hb ho46; obtain ⟨Ao47, co47, eo47⟩ := Kd.R_slice HO278.out; subst eo47) | (go_at_call 15; (with_reducible refine (fettlelaw05_Ints.calls k1 _ _ (rd_L1 t263 2) _ _ y276 t279 _ ?side1 ?side2 ?side3 ?side4 A31.out).mono ?_); (case side1 => repeat (first | exact (by repeat with_reducible first | exact HR275_0.out | refine C_alloc ?_ _ | refine C_drewN ?_ _ | refine C_drew ?_) | (with_reducible refine C_alloc ?_ _) | (with_reducible refine C_drewN ?_ _) | (with_reducible refine C_drew ?_))); (case side2 => exact HC275_0.out); (case side3 => repeat (first | exact (R_reads' HO278.out).2.2 | (with_reducible refine C_alloc ?_ _) | (with_reducible refine C_drewN ?_ _) | (with_reducible refine C_drew ?_))); (case side4 => exact (R_reads' HO278.out).2.1); rintro e w' ⟨rfl, ⟨nd, rfl⟩⟩))
        go_ret
        exact ⟨by first | rfl | (simp [errW_none, errW_some] <;> rfl) | (simp [*, errW_none, errW_some] <;> rfl), by repeat (first | (with_reducible first | exact HB.out | apply below_alloc | apply pw_below_drewN | apply below_drew1 | refine below_set ?_ GE255.out) | exact HB.out)⟩
      replace c29 := Bool.eq_false_iff.mpr c29
      subst c29
      have H1 : (some false) = some r := by rw [if_neg (show ¬ (false = true) by decide)] at H; exact H
      clear H
      have H := H1
      clear H1
      obtain rfl := Option.some.inj H
      have hcz48_0 : wr.cell? ⟨gb255, 0, none⟩ = some (.int .i64 0) := (blk_cell BK255.out 0).trans rfl
      have hcz48_1 : wr.cell? ⟨gb255, 1, none⟩ = some (.int .i64 0) := (blk_cell BK255.out 1).trans rfl
      have hcz48_2 : wr.cell? ⟨gb255, 2, none⟩ = some (.slice none 0 0) := (blk_cell BK255.out 2).trans rfl
      have hcz48_3 : wr.cell? ⟨gb255, 3, none⟩ = some (u256003) := (blk_cell BK255.out 3).trans rfl
      have hfz48_0 := blk_frozen BK255.out 0
      have hfz48_1 := blk_frozen BK255.out 1
      have hfz48_2 := blk_frozen BK255.out 2
      have hfz48_3 := blk_frozen BK255.out 3
      obtain ⟨Ao49, co49, eo49⟩ := Kd.N_slice HO_256003.out
      subst eo49
      go_wp2_with (first | ((with_reducible refine gate_callee (f := 20) rfl ?_); refine goesL_ (some 29) rfl rfl Try.func20 (by kernel_rfl) rfl #[.agg #[.int .i64 0, .int .i64 0, .slice none 0 0, .slice Ao49 x256003_1.length co49]] rfl (by (try simp only [List.map_toArray, List.map_cons, List.map_nil]); first | done | rfl) ?_; (refine (dom_Nearest.calls k1 0 0 _ _ ([] : List Int) _ _ x256003_1 t260 _ ?side1 ?side2 ?side3 ?side4 A22.out).mono ?_); (case side1 => exact Kd.C_nil _ _); (case side2 => exact Nat.le_refl _); (case side3 => repeat (first | exact (Kd.N_reads' HO_256003.out).2.2 | (with_reducible refine C_alloc ?_ _) | (with_reducible refine C_drewN ?_ _) | (with_reducible refine C_drew ?_))); (case side4 => exact (Kd.N_reads' HO_256003.out).2.1); rintro e w50 ⟨v261, rfl, ho0, hb⟩; refine ⟨_, rfl, ?_⟩; have n0_ := Aside0.mk (Kd.N_elder' (by (with_reducible repeat (first | apply Kd.N_alloc | apply Kd.N_drewN | apply Kd.N_drew)); exact HO_1.out) (R_base ho0) hb); have n1_ := Aside0.mk (Kd.N_elder' (by (with_reducible repeat (first | apply Kd.N_alloc | apply Kd.N_drewN | apply Kd.N_drew)); exact HO_256003.out) (R_base ho0) hb); have n2_ := Aside0.mk (Kd.R_lower ho0 (below_size (by repeat with_reducible first | exact HB.out | apply below_alloc | apply pw_below_drewN | apply below_drew1 | refine below_set ?_ GE255.out))); have n3_ := Aside0.mk (blk_below (g := gb255) (o := .cells #[.int .i64 0, .int .i64 0, .slice none 0 0, .slice Ao49 x256003_1.length co49] 25 (0, 0)) (by (with_reducible repeat (first | refine blk_drewN ?_ _ | refine blk_drew ?_ | refine blk_alloc ?_ _)); exact BK255.out) hb); have n4_ := Aside0.mk (below_step (by repeat with_reducible first | exact HB.out | apply below_alloc | apply pw_below_drewN | apply below_drew1 | refine below_set ?_ GE255.out) hb); clear HO_1; clear HO_256003; clear BK255; clear HB; have HO_1 := n0_; have HO_256003 := n1_; have HO262 := n2_; have BK255 := n3_; have HB := n4_; clear n0_ n1_ n2_ n3_ n4_; (try clear hb); (try clear hb2); (try clear hk); (try clear hi); (try clear ho0); have hcz51_0 : w50.cell? ⟨gb255, 0, none⟩ = some (.int .i64 0) := (blk_cell BK255.out 0).trans rfl; have hcz51_1 : w50.cell? ⟨gb255, 1, none⟩ = some (.int .i64 0) := (blk_cell BK255.out 1).trans rfl; have hcz51_2 : w50.cell? ⟨gb255, 2, none⟩ = some (.slice none 0 0) := (blk_cell BK255.out 2).trans rfl; have hcz51_3 : w50.cell? ⟨gb255, 3, none⟩ = some (.slice Ao49 x256003_1.length co49) := (blk_cell BK255.out 3).trans rfl; have hfz51_0 := blk_frozen BK255.out 0; have hfz51_1 := blk_frozen BK255.out 1; have hfz51_2 := blk_frozen BK255.out 2; have hfz51_3 := blk_frozen BK255.out 3) | ((with_reducible refine gate_callee (f := 13) rfl ?_); refine goesL_ (some 31) rfl rfl Try.func13 (by kernel_rfl) rfl #[.agg #[.int .i64 0, .int .i64 0, .slice none 0 0, .slice Ao49 x256003_1.length co49]] rfl (by (try simp only [List.map_toArray, List.map_cons, List.map_nil]); first | done | rfl) ?_; (refine (dom_Frontier.calls k1 0 0 _ _ ([] : List Int) _ _ x256003_1 t263 _ ?side1 ?side2 ?side3 ?side4 A23.out).mono ?_); (case side1 => exact Kd.C_nil _ _); (case side2 => exact Nat.le_refl _); (case side3 => repeat (first | exact (Kd.N_reads' HO_256003.out).2.2 | (with_reducible refine C_alloc ?_ _) | (with_reducible refine C_drewN ?_ _) | (with_reducible refine C_drew ?_))); (case side4 => exact (Kd.N_reads' HO_256003.out).2.1); rintro e w52 ⟨v264, rfl, ho0, hb⟩; refine ⟨_, rfl, ?_⟩; have n0_ := Aside0.mk (Kd.N_elder' (by (with_reducible repeat (first | apply Kd.N_alloc | apply Kd.N_drewN | apply Kd.N_drew)); exact HO_1.out) (Kd.S_base ho0) hb); have n1_ := Aside0.mk (Kd.N_elder' (by (with_reducible repeat (first | apply Kd.N_alloc | apply Kd.N_drewN | apply Kd.N_drew)); exact HO_256003.out) (Kd.S_base ho0) hb); have n2_ := Aside0.mk (Kd.R_below (by (with_reducible repeat (first | apply R_alloc | apply R_drewN | apply R_drew)); exact HO262.out) hb); have n3_ := Aside0.mk (Kd.N_lower (Kd.N_mono (ok' := fun k_ => some k_ ≠ (v253 : Value).ownBlock ∧ some k_ ≠ (.slice Ao49 x256003_1.length co49 : Value).ownBlock ∧ some k_ ≠ (v261 : Value).ownBlock ∧ k_ ≠ gb255) (Kd.S_N (Kd.S_bound ho0)) (fun k_ hk_ => ⟨(Kd.fresh' (Kd.N_lt (by (with_reducible repeat (first | apply Kd.N_alloc | apply Kd.N_drewN | apply Kd.N_drew)); exact HO_1.out)) k_ hk_.2.1), (Kd.fresh' (Kd.N_lt (by (with_reducible repeat (first | apply Kd.N_alloc | apply Kd.N_drewN | apply Kd.N_drew)); exact HO_256003.out)) k_ hk_.2.1), (Kd.fresh' (R_lt (by (with_reducible repeat (first | apply R_alloc | apply R_drewN | apply R_drew)); exact HO262.out)) k_ hk_.2.1), (Kd.freshB (g := gb255) (o := .cells #[.int .i64 0, .int .i64 0, .slice none 0 0, .slice Ao49 x256003_1.length co49] 25 (0, 0)) (by (with_reducible repeat (first | refine blk_drewN ?_ _ | refine blk_drew ?_ | refine blk_alloc ?_ _)); exact BK255.out) k_ hk_.2.1)⟩)) (below_size (by repeat with_reducible first | exact HB.out | apply below_alloc | apply pw_below_drewN | apply below_drew1 | refine below_set ?_ GE255.out))); have n4_ := Aside0.mk (blk_below (g := gb255) (o := .cells #[.int .i64 0, .int .i64 0, .slice none 0 0, .slice Ao49 x256003_1.length co49] 25 (0, 0)) (by (with_reducible repeat (first | refine blk_drewN ?_ _ | refine blk_drew ?_ | refine blk_alloc ?_ _)); exact BK255.out) hb); have n5_ := Aside0.mk (below_step (by repeat with_reducible first | exact HB.out | apply below_alloc | apply pw_below_drewN | apply below_drew1 | refine below_set ?_ GE255.out) hb); clear HO_1; clear HO_256003; clear HO262; clear BK255; clear HB; have HO_1 := n0_; have HO_256003 := n1_; have HO262 := n2_; have HO265 := n3_; have BK255 := n4_; have HB := n5_; clear n0_ n1_ n2_ n3_ n4_ n5_; (try clear hb); (try clear hb2); (try clear hk); (try clear hi); (try clear ho0)) | ((with_reducible refine gate_dst (N := 33) rfl ?_); (try (refine gate_guard (by rfl) ?_; dsimp only)); refine Kd.R_lit (Kd.int .i64) _ 3 ?hg (N := 33) ?hd (xs := ([(-1), 0, 0, 0] : List Int)) (inner := [.int .i64 (-1), .int .i64 0, .int .i64 0, .int .i64 0]) (ok := fun _ => True) (okp := fun _ => True) ?hr ?hp (fun _ hk => hk) trivial (Below.refl _ _) (Nat.le_refl _) (by simp) ?_; (case hd => rfl); (case hg => rfl); (case hr => first | (go_simp; done) | (go_simp; rfl)); (case hp => exact (Reps.one (show Kd.M (Kd.int .i64) _ _ _ (-1) [.int .i64 (-1)] from rfl) (Reps.one (show Kd.M (Kd.int .i64) _ _ _ 0 [.int .i64 0] from rfl) (Reps.one (show Kd.M (Kd.int .i64) _ _ _ 0 [.int .i64 0] from rfl) (Reps.one (show Kd.M (Kd.int .i64) _ _ _ 0 [.int .i64 0] from rfl) (Reps.none _ _)))))); intro v267 w53 ho54 hb hg_ hnew_; clear hg_ hnew_; rw [← Ny266.out] at ho54; have n0_ := Aside0.mk (Kd.N_elder' (by (with_reducible repeat (first | apply Kd.N_alloc | apply Kd.N_drewN | apply Kd.N_drew)); exact HO_1.out) (R_base ho54) hb); have n1_ := Aside0.mk (Kd.N_elder' (by (with_reducible repeat (first | apply Kd.N_alloc | apply Kd.N_drewN | apply Kd.N_drew)); exact HO_256003.out) (R_base ho54) hb); have n2_ := Aside0.mk (R_elder' (by (with_reducible repeat (first | apply R_alloc | apply R_drewN | apply R_drew)); exact HO262.out) (R_base ho54) hb); have n3_ := Aside0.mk (Kd.N_elder' (by (with_reducible repeat (first | apply Kd.N_alloc | apply Kd.N_drewN | apply Kd.N_drew)); exact HO265.out) (R_base ho54) hb); have n4_ := Aside0.mk (Kd.R_lower (R_new' ho54 (R_lt (by (with_reducible repeat (first | apply R_alloc | apply R_drewN | apply R_drew)); exact HO262.out))) (below_size (by repeat with_reducible first | exact HB.out | apply below_alloc | apply pw_below_drewN | apply below_drew1 | refine below_set ?_ GE255.out))); have n5_ := Aside0.mk (blk_below (g := gb255) (o := .cells #[.int .i64 0, .int .i64 0, .slice none 0 0, .slice Ao49 x256003_1.length co49] 25 (0, 0)) (by (with_reducible repeat (first | refine blk_drewN ?_ _ | refine blk_drew ?_ | refine blk_alloc ?_ _)); exact BK255.out) hb); have n6_ := Aside0.mk (below_step (by repeat with_reducible first | exact HB.out | apply below_alloc | apply pw_below_drewN | apply below_drew1 | refine below_set ?_ GE255.out) hb); clear HO_1; clear HO_256003; clear HO262; clear HO265; clear BK255; clear HB; have HO_1 := n0_; have HO_256003 := n1_; have HO262 := n2_; have HO265 := n3_; have HO268 := n4_; have BK255 := n5_; have HB := n6_; clear n0_ n1_ n2_ n3_ n4_ n5_ n6_; clear hb ho54; obtain ⟨Ao55, co55, eo55⟩ := Kd.R_slice HO262.out; subst eo55; obtain ⟨Ao56, co56, eo56⟩ := Kd.R_slice HO268.out; subst eo56) | ((with_reducible refine gate_callee (f := 15) rfl ?_); refine goesL_ (some 34) rfl rfl Try.func15 (by kernel_rfl) rfl #[.slice Ao55 t260.length co55, .slice Ao56 y266.length co56] rfl (by (try simp only [List.map_toArray, List.map_cons, List.map_nil]); first | done | rfl) ?_; (with_reducible refine (fettlelaw05_Ints.calls k1 _ _ t260 _ _ y266 true _ ?side1 ?side2 ?side3 ?side4 A24.out).mono ?_); (case side1 => repeat (first | exact (R_reads' HO262.out).2.2 | (with_reducible refine C_alloc ?_ _) | (with_reducible refine C_drewN ?_ _) | (with_reducible refine C_drew ?_))); (case side2 => exact (R_reads' HO262.out).2.1); (case side3 => repeat (first | exact (R_reads' HO268.out).2.2 | (with_reducible refine C_alloc ?_ _) | (with_reducible refine C_drewN ?_ _) | (with_reducible refine C_drew ?_))); (case side4 => exact (R_reads' HO268.out).2.1); rintro e w' ⟨rfl, ⟨nd, rfl⟩⟩; refine ⟨_, rfl, ?_⟩; obtain ⟨Ao57, co57, eo57⟩ := Kd.N_slice HO265.out; subst eo57; have p270 : 0 ≤ (1 : Int) := (by omega); have q270 : 1 < (t263.length : Int) := of_decide_eq_true (by with_reducible assumption); obtain ⟨ad270, A270_0, c270_0, e270, hx270_0, hl270_0, hi270_0⟩ := at_L1 (Kd.N_reads' HO265.out).2.2 1 p270 q270; cases e270; obtain ⟨ce270, hce270, hMe270, hcc270⟩ := Kd.N_get HO265.out [] 1 p270 (by first | exact q270 | exact of_decide_eq_true (by with_reducible assumption) | (have e_ := (Kd.N_reads' HO265.out).1; omega)); obtain ⟨ua270_0, uc270_0, rfl, ul270_0, ge270_0⟩ := Kd.FK_slice_open hMe270; have hv270_0 := hcc270 0 _ rfl; rw [Nat.add_zero, show ((Kd.slice 3 (Kd.int .i64))).sz = 1 from rfl, Nat.mul_one] at hv270_0; replace hv270_0 := Option.some.inj (hv270_0.symm.trans hx270_0); injection hv270_0 with hva_ hvn_ hvc_; rw [hva_] at ge270_0; rw [hvc_] at ul270_0; have HL270_0 := Aside0.mk (show Kd.V (Kd.int .i64) 3 _ w.heap.size _ _ (rd_L1 t263 1) from Kd.V_mk ul270_0 ge270_0); clear hva_ hvn_ hvc_ ge270_0 ul270_0; clear hcc270 hce270; (try simp only [show (1 : Int).toNat = 1 from rfl, Nat.reduceMul, Nat.reduceEqDiff, Go.Addr.add, ↓reduceIte] at hx270_0); have qi270 : (1 < t263.length) = True := eq_true (by omega); (try rw [show ((1 : Int)).toNat = 1 from rfl] at hx270_0); have HR270_0 := Aside0.mk hi270_0; have HC270_0 := Aside0.mk hl270_0; clear hi270_0 hl270_0; replace p270 := eq_true p270; replace q270 := eq_true q270) | ((with_reducible refine gate_dst (N := 44) rfl ?_); (try (refine gate_guard (by rfl) ?_; dsimp only)); refine Kd.R_lit (Kd.int .i64) _ 3 ?hg (N := 44) ?hd (xs := ([3] : List Int)) (inner := [.int .i64 3]) (ok := fun _ => True) (okp := fun _ => True) ?hr ?hp (fun _ hk => hk) trivial (Below.refl _ _) (Nat.le_refl _) (by simp) ?_; (case hd => rfl); (case hg => rfl); (case hr => first | (go_simp; done) | (go_simp; rfl)); (case hp => exact (Reps.one (show Kd.M (Kd.int .i64) _ _ _ 3 [.int .i64 3] from rfl) (Reps.none _ _))); intro v272 w58 ho59 hb hg_ hnew_; clear hg_ hnew_; rw [← Ny271.out] at ho59; have n0_ := Aside0.mk (Kd.N_elder' (by (with_reducible repeat (first | apply Kd.N_alloc | apply Kd.N_drewN | apply Kd.N_drew)); exact HO_1.out) (R_base ho59) hb); have n1_ := Aside0.mk (Kd.N_elder' (by (with_reducible repeat (first | apply Kd.N_alloc | apply Kd.N_drewN | apply Kd.N_drew)); exact HO_256003.out) (R_base ho59) hb); have n2_ := Aside0.mk (R_elder' (by (with_reducible repeat (first | apply R_alloc | apply R_drewN | apply R_drew)); exact HO262.out) (R_base ho59) hb); have n3_ := Aside0.mk (Kd.N_elder' (by (with_reducible repeat (first | apply Kd.N_alloc | apply Kd.N_drewN | apply Kd.N_drew)); exact HO265.out) (R_base ho59) hb); have n4_ := Aside0.mk (R_elder' (by (with_reducible repeat (first | apply R_alloc | apply R_drewN | apply R_drew)); exact HO268.out) (R_base ho59) hb); have n5_ := Aside0.mk (Kd.V_elder' (by (with_reducible repeat (first | apply Kd.V_alloc | apply Kd.V_drewN | apply Kd.V_drew)); exact HL270_0.out) (R_base ho59) hb); have n6_ := Aside0.mk (Kd.R_lower (R_new' (R_new' ho59 (R_lt (by (with_reducible repeat (first | apply R_alloc | apply R_drewN | apply R_drew)); exact HO262.out))) (R_lt (by (with_reducible repeat (first | apply R_alloc | apply R_drewN | apply R_drew)); exact HO268.out))) (below_size (by repeat with_reducible first | exact HB.out | apply below_alloc | apply pw_below_drewN | apply below_drew1 | refine below_set ?_ GE255.out))); have n7_ := Aside0.mk (blk_below (g := gb255) (o := .cells #[.int .i64 0, .int .i64 0, .slice none 0 0, .slice Ao49 x256003_1.length co49] 25 (0, 0)) (by (with_reducible repeat (first | refine blk_drewN ?_ _ | refine blk_drew ?_ | refine blk_alloc ?_ _)); exact BK255.out) hb); have n8_ := Aside0.mk (C_below (by first | (with_reducible exact HR270_0.out) | (with_reducible exact C_drewN HR270_0.out _) | (repeat with_reducible first | exact HR270_0.out | refine C_alloc ?_ _ | refine C_drewN ?_ _ | refine C_drew ?_)) hb); have n9_ := Aside0.mk (below_step (by repeat with_reducible first | exact HB.out | apply below_alloc | apply pw_below_drewN | apply below_drew1 | refine below_set ?_ GE255.out) hb); clear HO_1; clear HO_256003; clear HO262; clear HO265; clear HO268; clear HL270_0; clear BK255; clear HR270_0; clear HB; have HO_1 := n0_; have HO_256003 := n1_; have HO262 := n2_; have HO265 := n3_; have HO268 := n4_; have HL270_0 := n5_; have HO273 := n6_; have BK255 := n7_; have HR270_0 := n8_; have HB := n9_; clear n0_ n1_ n2_ n3_ n4_ n5_ n6_ n7_ n8_ n9_; clear hb ho59; obtain ⟨Ao60, co60, eo60⟩ := Kd.R_slice HO273.out; subst eo60) | (go_at_call 15; (with_reducible refine (fettlelaw05_Ints.calls k1 _ _ (rd_L1 t263 1) _ _ y271 false _ ?side1 ?side2 ?side3 ?side4 A28.out).mono ?_); (case side1 => repeat (first | exact (by repeat with_reducible first | exact HR270_0.out | refine C_alloc ?_ _ | refine C_drewN ?_ _ | refine C_drew ?_) | (with_reducible refine C_alloc ?_ _) | (with_reducible refine C_drewN ?_ _) | (with_reducible refine C_drew ?_))); (case side2 => exact HC270_0.out); (case side3 => repeat (first | exact (R_reads' HO273.out).2.2 | (with_reducible refine C_alloc ?_ _) | (with_reducible refine C_drewN ?_ _) | (with_reducible refine C_drew ?_))); (case side4 => exact (R_reads' HO273.out).2.1); rintro e w' ⟨rfl, ⟨nd, rfl⟩⟩))
      go_ret
      exact ⟨by first | rfl | (simp [errW_none, errW_some] <;> rfl) | (simp [*, errW_none, errW_some] <;> rfl), by repeat (first | (with_reducible first | exact HB.out | apply below_alloc | apply pw_below_drewN | apply below_drew1 | refine below_set ?_ GE255.out) | exact HB.out)⟩
    rw [if_neg c26] at H
    have c26b0 : ((t263.length : Int) == 4) = false := beq_eq_false_iff_ne.mpr c26
    have c26b1 : ((t263.length : Int) != 4) = true := bne_iff_ne.mpr c26
    obtain rfl := Option.some.inj H
    have hcz61_0 : wr.cell? ⟨gb255, 0, none⟩ = some (.int .i64 0) := (blk_cell BK255.out 0).trans rfl
    have hcz61_1 : wr.cell? ⟨gb255, 1, none⟩ = some (.int .i64 0) := (blk_cell BK255.out 1).trans rfl
    have hcz61_2 : wr.cell? ⟨gb255, 2, none⟩ = some (.slice none 0 0) := (blk_cell BK255.out 2).trans rfl
    have hcz61_3 : wr.cell? ⟨gb255, 3, none⟩ = some (u256003) := (blk_cell BK255.out 3).trans rfl
    have hfz61_0 := blk_frozen BK255.out 0
    have hfz61_1 := blk_frozen BK255.out 1
    have hfz61_2 := blk_frozen BK255.out 2
    have hfz61_3 := blk_frozen BK255.out 3
    obtain ⟨Ao62, co62, eo62⟩ := Kd.N_slice HO_256003.out
    subst eo62
    go_wp2_with (first | ((with_reducible refine gate_callee (f := 20) rfl ?_); refine goesL_ (some 29) rfl rfl Try.func20 (by kernel_rfl) rfl #[.agg #[.int .i64 0, .int .i64 0, .slice none 0 0, .slice Ao62 x256003_1.length co62]] rfl (by (try simp only [List.map_toArray, List.map_cons, List.map_nil]); first | done | rfl) ?_; (refine (dom_Nearest.calls k1 0 0 _ _ ([] : List Int) _ _ x256003_1 t260 _ ?side1 ?side2 ?side3 ?side4 A22.out).mono ?_); (case side1 => exact Kd.C_nil _ _); (case side2 => exact Nat.le_refl _); (case side3 => repeat (first | exact (Kd.N_reads' HO_256003.out).2.2 | (with_reducible refine C_alloc ?_ _) | (with_reducible refine C_drewN ?_ _) | (with_reducible refine C_drew ?_))); (case side4 => exact (Kd.N_reads' HO_256003.out).2.1); rintro e w63 ⟨v261, rfl, ho0, hb⟩; refine ⟨_, rfl, ?_⟩; have n0_ := Aside0.mk (Kd.N_elder' (by (with_reducible repeat (first | apply Kd.N_alloc | apply Kd.N_drewN | apply Kd.N_drew)); exact HO_1.out) (R_base ho0) hb); have n1_ := Aside0.mk (Kd.N_elder' (by (with_reducible repeat (first | apply Kd.N_alloc | apply Kd.N_drewN | apply Kd.N_drew)); exact HO_256003.out) (R_base ho0) hb); have n2_ := Aside0.mk (Kd.R_lower ho0 (below_size (by repeat with_reducible first | exact HB.out | apply below_alloc | apply pw_below_drewN | apply below_drew1 | refine below_set ?_ GE255.out))); have n3_ := Aside0.mk (blk_below (g := gb255) (o := .cells #[.int .i64 0, .int .i64 0, .slice none 0 0, .slice Ao62 x256003_1.length co62] 25 (0, 0)) (by (with_reducible repeat (first | refine blk_drewN ?_ _ | refine blk_drew ?_ | refine blk_alloc ?_ _)); exact BK255.out) hb); have n4_ := Aside0.mk (below_step (by repeat with_reducible first | exact HB.out | apply below_alloc | apply pw_below_drewN | apply below_drew1 | refine below_set ?_ GE255.out) hb); clear HO_1; clear HO_256003; clear BK255; clear HB; have HO_1 := n0_; have HO_256003 := n1_; have HO262 := n2_; have BK255 := n3_; have HB := n4_; clear n0_ n1_ n2_ n3_ n4_; (try clear hb); (try clear hb2); (try clear hk); (try clear hi); (try clear ho0); have hcz64_0 : w63.cell? ⟨gb255, 0, none⟩ = some (.int .i64 0) := (blk_cell BK255.out 0).trans rfl; have hcz64_1 : w63.cell? ⟨gb255, 1, none⟩ = some (.int .i64 0) := (blk_cell BK255.out 1).trans rfl; have hcz64_2 : w63.cell? ⟨gb255, 2, none⟩ = some (.slice none 0 0) := (blk_cell BK255.out 2).trans rfl; have hcz64_3 : w63.cell? ⟨gb255, 3, none⟩ = some (.slice Ao62 x256003_1.length co62) := (blk_cell BK255.out 3).trans rfl; have hfz64_0 := blk_frozen BK255.out 0; have hfz64_1 := blk_frozen BK255.out 1; have hfz64_2 := blk_frozen BK255.out 2; have hfz64_3 := blk_frozen BK255.out 3) | ((with_reducible refine gate_callee (f := 13) rfl ?_); refine goesL_ (some 31) rfl rfl Try.func13 (by kernel_rfl) rfl #[.agg #[.int .i64 0, .int .i64 0, .slice none 0 0, .slice Ao62 x256003_1.length co62]] rfl (by (try simp only [List.map_toArray, List.map_cons, List.map_nil]); first | done | rfl) ?_; (refine (dom_Frontier.calls k1 0 0 _ _ ([] : List Int) _ _ x256003_1 t263 _ ?side1 ?side2 ?side3 ?side4 A23.out).mono ?_); (case side1 => exact Kd.C_nil _ _); (case side2 => exact Nat.le_refl _); (case side3 => repeat (first | exact (Kd.N_reads' HO_256003.out).2.2 | (with_reducible refine C_alloc ?_ _) | (with_reducible refine C_drewN ?_ _) | (with_reducible refine C_drew ?_))); (case side4 => exact (Kd.N_reads' HO_256003.out).2.1); rintro e w65 ⟨v264, rfl, ho0, hb⟩; refine ⟨_, rfl, ?_⟩; have n0_ := Aside0.mk (Kd.N_elder' (by (with_reducible repeat (first | apply Kd.N_alloc | apply Kd.N_drewN | apply Kd.N_drew)); exact HO_1.out) (Kd.S_base ho0) hb); have n1_ := Aside0.mk (Kd.N_elder' (by (with_reducible repeat (first | apply Kd.N_alloc | apply Kd.N_drewN | apply Kd.N_drew)); exact HO_256003.out) (Kd.S_base ho0) hb); have n2_ := Aside0.mk (Kd.R_below (by (with_reducible repeat (first | apply R_alloc | apply R_drewN | apply R_drew)); exact HO262.out) hb); have n3_ := Aside0.mk (Kd.N_lower (Kd.N_mono (ok' := fun k_ => some k_ ≠ (v253 : Value).ownBlock ∧ some k_ ≠ (.slice Ao62 x256003_1.length co62 : Value).ownBlock ∧ some k_ ≠ (v261 : Value).ownBlock ∧ k_ ≠ gb255) (Kd.S_N (Kd.S_bound ho0)) (fun k_ hk_ => ⟨(Kd.fresh' (Kd.N_lt (by (with_reducible repeat (first | apply Kd.N_alloc | apply Kd.N_drewN | apply Kd.N_drew)); exact HO_1.out)) k_ hk_.2.1), (Kd.fresh' (Kd.N_lt (by (with_reducible repeat (first | apply Kd.N_alloc | apply Kd.N_drewN | apply Kd.N_drew)); exact HO_256003.out)) k_ hk_.2.1), (Kd.fresh' (R_lt (by (with_reducible repeat (first | apply R_alloc | apply R_drewN | apply R_drew)); exact HO262.out)) k_ hk_.2.1), (Kd.freshB (g := gb255) (o := .cells #[.int .i64 0, .int .i64 0, .slice none 0 0, .slice Ao62 x256003_1.length co62] 25 (0, 0)) (by (with_reducible repeat (first | refine blk_drewN ?_ _ | refine blk_drew ?_ | refine blk_alloc ?_ _)); exact BK255.out) k_ hk_.2.1)⟩)) (below_size (by repeat with_reducible first | exact HB.out | apply below_alloc | apply pw_below_drewN | apply below_drew1 | refine below_set ?_ GE255.out))); have n4_ := Aside0.mk (blk_below (g := gb255) (o := .cells #[.int .i64 0, .int .i64 0, .slice none 0 0, .slice Ao62 x256003_1.length co62] 25 (0, 0)) (by (with_reducible repeat (first | refine blk_drewN ?_ _ | refine blk_drew ?_ | refine blk_alloc ?_ _)); exact BK255.out) hb); have n5_ := Aside0.mk (below_step (by repeat with_reducible first | exact HB.out | apply below_alloc | apply pw_below_drewN | apply below_drew1 | refine below_set ?_ GE255.out) hb); clear HO_1; clear HO_256003; clear HO262; clear BK255; clear HB; have HO_1 := n0_; have HO_256003 := n1_; have HO262 := n2_; have HO265 := n3_; have BK255 := n4_; have HB := n5_; clear n0_ n1_ n2_ n3_ n4_ n5_; (try clear hb); (try clear hb2); (try clear hk); (try clear hi); (try clear ho0)) | ((with_reducible refine gate_dst (N := 33) rfl ?_); (try (refine gate_guard (by rfl) ?_; dsimp only)); refine Kd.R_lit (Kd.int .i64) _ 3 ?hg (N := 33) ?hd (xs := ([(-1), 0, 0, 0] : List Int)) (inner := [.int .i64 (-1), .int .i64 0, .int .i64 0, .int .i64 0]) (ok := fun _ => True) (okp := fun _ => True) ?hr ?hp (fun _ hk => hk) trivial (Below.refl _ _) (Nat.le_refl _) (by simp) ?_; (case hd => rfl); (case hg => rfl); (case hr => first | (go_simp; done) | (go_simp; rfl)); (case hp => exact (Reps.one (show Kd.M (Kd.int .i64) _ _ _ (-1) [.int .i64 (-1)] from rfl) (Reps.one (show Kd.M (Kd.int .i64) _ _ _ 0 [.int .i64 0] from rfl) (Reps.one (show Kd.M (Kd.int .i64) _ _ _ 0 [.int .i64 0] from rfl) (Reps.one (show Kd.M (Kd.int .i64) _ _ _ 0 [.int .i64 0] from rfl) (Reps.none _ _)))))); intro v267 w66 ho67 hb hg_ hnew_; clear hg_ hnew_; rw [← Ny266.out] at ho67; have n0_ := Aside0.mk (Kd.N_elder' (by (with_reducible repeat (first | apply Kd.N_alloc | apply Kd.N_drewN | apply Kd.N_drew)); exact HO_1.out) (R_base ho67) hb); have n1_ := Aside0.mk (Kd.N_elder' (by (with_reducible repeat (first | apply Kd.N_alloc | apply Kd.N_drewN | apply Kd.N_drew)); exact HO_256003.out) (R_base ho67) hb); have n2_ := Aside0.mk (R_elder' (by (with_reducible repeat (first | apply R_alloc | apply R_drewN | apply R_drew)); exact HO262.out) (R_base ho67) hb); have n3_ := Aside0.mk (Kd.N_elder' (by (with_reducible repeat (first | apply Kd.N_alloc | apply Kd.N_drewN | apply Kd.N_drew)); exact HO265.out) (R_base ho67) hb); have n4_ := Aside0.mk (Kd.R_lower (R_new' ho67 (R_lt (by (with_reducible repeat (first | apply R_alloc | apply R_drewN | apply R_drew)); exact HO262.out))) (below_size (by repeat with_reducible first | exact HB.out | apply below_alloc | apply pw_below_drewN | apply below_drew1 | refine below_set ?_ GE255.out))); have n5_ := Aside0.mk (blk_below (g := gb255) (o := .cells #[.int .i64 0, .int .i64 0, .slice none 0 0, .slice Ao62 x256003_1.length co62] 25 (0, 0)) (by (with_reducible repeat (first | refine blk_drewN ?_ _ | refine blk_drew ?_ | refine blk_alloc ?_ _)); exact BK255.out) hb); have n6_ := Aside0.mk (below_step (by repeat with_reducible first | exact HB.out | apply below_alloc | apply pw_below_drewN | apply below_drew1 | refine below_set ?_ GE255.out) hb); clear HO_1; clear HO_256003; clear HO262; clear HO265; clear BK255; clear HB; have HO_1 := n0_; have HO_256003 := n1_; have HO262 := n2_; have HO265 := n3_; have HO268 := n4_; have BK255 := n5_; have HB := n6_; clear n0_ n1_ n2_ n3_ n4_ n5_ n6_; clear hb ho67; obtain ⟨Ao68, co68, eo68⟩ := Kd.R_slice HO262.out; subst eo68; obtain ⟨Ao69, co69, eo69⟩ := Kd.R_slice HO268.out; subst eo69) | ((with_reducible refine gate_callee (f := 15) rfl ?_); refine goesL_ (some 34) rfl rfl Try.func15 (by kernel_rfl) rfl #[.slice Ao68 t260.length co68, .slice Ao69 y266.length co69] rfl (by (try simp only [List.map_toArray, List.map_cons, List.map_nil]); first | done | rfl) ?_; (with_reducible refine (fettlelaw05_Ints.calls k1 _ _ t260 _ _ y266 true _ ?side1 ?side2 ?side3 ?side4 A24.out).mono ?_); (case side1 => repeat (first | exact (R_reads' HO262.out).2.2 | (with_reducible refine C_alloc ?_ _) | (with_reducible refine C_drewN ?_ _) | (with_reducible refine C_drew ?_))); (case side2 => exact (R_reads' HO262.out).2.1); (case side3 => repeat (first | exact (R_reads' HO268.out).2.2 | (with_reducible refine C_alloc ?_ _) | (with_reducible refine C_drewN ?_ _) | (with_reducible refine C_drew ?_))); (case side4 => exact (R_reads' HO268.out).2.1); rintro e w' ⟨rfl, ⟨nd, rfl⟩⟩; refine ⟨_, rfl, ?_⟩; obtain ⟨Ao70, co70, eo70⟩ := Kd.N_slice HO265.out; subst eo70))
    go_ret
    exact ⟨by first | rfl | (simp [errW_none, errW_some] <;> rfl) | (simp [*, errW_none, errW_some] <;> rfl), by repeat (first | (with_reducible first | exact HB.out | apply below_alloc | apply pw_below_drewN | apply below_drew1 | refine below_set ?_ GE255.out) | exact HB.out)⟩
  replace c25 := Bool.eq_false_iff.mpr c25
  subst c25
  have H1 : (some false) = some r := by rw [if_neg (show ¬ (false = true) by decide)] at H; exact H
  clear H
  have H := H1
  clear H1
  obtain rfl := Option.some.inj H
  have hcz71_0 : wr.cell? ⟨gb255, 0, none⟩ = some (.int .i64 0) := (blk_cell BK255.out 0).trans rfl
  have hcz71_1 : wr.cell? ⟨gb255, 1, none⟩ = some (.int .i64 0) := (blk_cell BK255.out 1).trans rfl
  have hcz71_2 : wr.cell? ⟨gb255, 2, none⟩ = some (.slice none 0 0) := (blk_cell BK255.out 2).trans rfl
  have hcz71_3 : wr.cell? ⟨gb255, 3, none⟩ = some (u256003) := (blk_cell BK255.out 3).trans rfl
  have hfz71_0 := blk_frozen BK255.out 0
  have hfz71_1 := blk_frozen BK255.out 1
  have hfz71_2 := blk_frozen BK255.out 2
  have hfz71_3 := blk_frozen BK255.out 3
  obtain ⟨Ao72, co72, eo72⟩ := Kd.N_slice HO_256003.out
  subst eo72
  go_wp2_with (first | ((with_reducible refine gate_callee (f := 20) rfl ?_); refine goesL_ (some 29) rfl rfl Try.func20 (by kernel_rfl) rfl #[.agg #[.int .i64 0, .int .i64 0, .slice none 0 0, .slice Ao72 x256003_1.length co72]] rfl (by (try simp only [List.map_toArray, List.map_cons, List.map_nil]); first | done | rfl) ?_; (refine (dom_Nearest.calls k1 0 0 _ _ ([] : List Int) _ _ x256003_1 t260 _ ?side1 ?side2 ?side3 ?side4 A22.out).mono ?_); (case side1 => exact Kd.C_nil _ _); (case side2 => exact Nat.le_refl _); (case side3 => repeat (first | exact (Kd.N_reads' HO_256003.out).2.2 | (with_reducible refine C_alloc ?_ _) | (with_reducible refine C_drewN ?_ _) | (with_reducible refine C_drew ?_))); (case side4 => exact (Kd.N_reads' HO_256003.out).2.1); rintro e w73 ⟨v261, rfl, ho0, hb⟩; refine ⟨_, rfl, ?_⟩; have n0_ := Aside0.mk (Kd.N_elder' (by (with_reducible repeat (first | apply Kd.N_alloc | apply Kd.N_drewN | apply Kd.N_drew)); exact HO_1.out) (R_base ho0) hb); have n1_ := Aside0.mk (Kd.N_elder' (by (with_reducible repeat (first | apply Kd.N_alloc | apply Kd.N_drewN | apply Kd.N_drew)); exact HO_256003.out) (R_base ho0) hb); have n2_ := Aside0.mk (Kd.R_lower ho0 (below_size (by repeat with_reducible first | exact HB.out | apply below_alloc | apply pw_below_drewN | apply below_drew1 | refine below_set ?_ GE255.out))); have n3_ := Aside0.mk (blk_below (g := gb255) (o := .cells #[.int .i64 0, .int .i64 0, .slice none 0 0, .slice Ao72 x256003_1.length co72] 25 (0, 0)) (by (with_reducible repeat (first | refine blk_drewN ?_ _ | refine blk_drew ?_ | refine blk_alloc ?_ _)); exact BK255.out) hb); have n4_ := Aside0.mk (below_step (by repeat with_reducible first | exact HB.out | apply below_alloc | apply pw_below_drewN | apply below_drew1 | refine below_set ?_ GE255.out) hb); clear HO_1; clear HO_256003; clear BK255; clear HB; have HO_1 := n0_; have HO_256003 := n1_; have HO262 := n2_; have BK255 := n3_; have HB := n4_; clear n0_ n1_ n2_ n3_ n4_; (try clear hb); (try clear hb2); (try clear hk); (try clear hi); (try clear ho0); have hcz74_0 : w73.cell? ⟨gb255, 0, none⟩ = some (.int .i64 0) := (blk_cell BK255.out 0).trans rfl; have hcz74_1 : w73.cell? ⟨gb255, 1, none⟩ = some (.int .i64 0) := (blk_cell BK255.out 1).trans rfl; have hcz74_2 : w73.cell? ⟨gb255, 2, none⟩ = some (.slice none 0 0) := (blk_cell BK255.out 2).trans rfl; have hcz74_3 : w73.cell? ⟨gb255, 3, none⟩ = some (.slice Ao72 x256003_1.length co72) := (blk_cell BK255.out 3).trans rfl; have hfz74_0 := blk_frozen BK255.out 0; have hfz74_1 := blk_frozen BK255.out 1; have hfz74_2 := blk_frozen BK255.out 2; have hfz74_3 := blk_frozen BK255.out 3) | ((with_reducible refine gate_callee (f := 13) rfl ?_); refine goesL_ (some 31) rfl rfl Try.func13 (by kernel_rfl) rfl #[.agg #[.int .i64 0, .int .i64 0, .slice none 0 0, .slice Ao72 x256003_1.length co72]] rfl (by (try simp only [List.map_toArray, List.map_cons, List.map_nil]); first | done | rfl) ?_; (refine (dom_Frontier.calls k1 0 0 _ _ ([] : List Int) _ _ x256003_1 t263 _ ?side1 ?side2 ?side3 ?side4 A23.out).mono ?_); (case side1 => exact Kd.C_nil _ _); (case side2 => exact Nat.le_refl _); (case side3 => repeat (first | exact (Kd.N_reads' HO_256003.out).2.2 | (with_reducible refine C_alloc ?_ _) | (with_reducible refine C_drewN ?_ _) | (with_reducible refine C_drew ?_))); (case side4 => exact (Kd.N_reads' HO_256003.out).2.1); rintro e w75 ⟨v264, rfl, ho0, hb⟩; refine ⟨_, rfl, ?_⟩; have n0_ := Aside0.mk (Kd.N_elder' (by (with_reducible repeat (first | apply Kd.N_alloc | apply Kd.N_drewN | apply Kd.N_drew)); exact HO_1.out) (Kd.S_base ho0) hb); have n1_ := Aside0.mk (Kd.N_elder' (by (with_reducible repeat (first | apply Kd.N_alloc | apply Kd.N_drewN | apply Kd.N_drew)); exact HO_256003.out) (Kd.S_base ho0) hb); have n2_ := Aside0.mk (Kd.R_below (by (with_reducible repeat (first | apply R_alloc | apply R_drewN | apply R_drew)); exact HO262.out) hb); have n3_ := Aside0.mk (Kd.N_lower (Kd.N_mono (ok' := fun k_ => some k_ ≠ (v253 : Value).ownBlock ∧ some k_ ≠ (.slice Ao72 x256003_1.length co72 : Value).ownBlock ∧ some k_ ≠ (v261 : Value).ownBlock ∧ k_ ≠ gb255) (Kd.S_N (Kd.S_bound ho0)) (fun k_ hk_ => ⟨(Kd.fresh' (Kd.N_lt (by (with_reducible repeat (first | apply Kd.N_alloc | apply Kd.N_drewN | apply Kd.N_drew)); exact HO_1.out)) k_ hk_.2.1), (Kd.fresh' (Kd.N_lt (by (with_reducible repeat (first | apply Kd.N_alloc | apply Kd.N_drewN | apply Kd.N_drew)); exact HO_256003.out)) k_ hk_.2.1), (Kd.fresh' (R_lt (by (with_reducible repeat (first | apply R_alloc | apply R_drewN | apply R_drew)); exact HO262.out)) k_ hk_.2.1), (Kd.freshB (g := gb255) (o := .cells #[.int .i64 0, .int .i64 0, .slice none 0 0, .slice Ao72 x256003_1.length co72] 25 (0, 0)) (by (with_reducible repeat (first | refine blk_drewN ?_ _ | refine blk_drew ?_ | refine blk_alloc ?_ _)); exact BK255.out) k_ hk_.2.1)⟩)) (below_size (by repeat with_reducible first | exact HB.out | apply below_alloc | apply pw_below_drewN | apply below_drew1 | refine below_set ?_ GE255.out))); have n4_ := Aside0.mk (blk_below (g := gb255) (o := .cells #[.int .i64 0, .int .i64 0, .slice none 0 0, .slice Ao72 x256003_1.length co72] 25 (0, 0)) (by (with_reducible repeat (first | refine blk_drewN ?_ _ | refine blk_drew ?_ | refine blk_alloc ?_ _)); exact BK255.out) hb); have n5_ := Aside0.mk (below_step (by repeat with_reducible first | exact HB.out | apply below_alloc | apply pw_below_drewN | apply below_drew1 | refine below_set ?_ GE255.out) hb); clear HO_1; clear HO_256003; clear HO262; clear BK255; clear HB; have HO_1 := n0_; have HO_256003 := n1_; have HO262 := n2_; have HO265 := n3_; have BK255 := n4_; have HB := n5_; clear n0_ n1_ n2_ n3_ n4_ n5_; (try clear hb); (try clear hb2); (try clear hk); (try clear hi); (try clear ho0)) | ((with_reducible refine gate_dst (N := 33) rfl ?_); (try (refine gate_guard (by rfl) ?_; dsimp only)); refine Kd.R_lit (Kd.int .i64) _ 3 ?hg (N := 33) ?hd (xs := ([(-1), 0, 0, 0] : List Int)) (inner := [.int .i64 (-1), .int .i64 0, .int .i64 0, .int .i64 0]) (ok := fun _ => True) (okp := fun _ => True) ?hr ?hp (fun _ hk => hk) trivial (Below.refl _ _) (Nat.le_refl _) (by simp) ?_; (case hd => rfl); (case hg => rfl); (case hr => first | (go_simp; done) | (go_simp; rfl)); (case hp => exact (Reps.one (show Kd.M (Kd.int .i64) _ _ _ (-1) [.int .i64 (-1)] from rfl) (Reps.one (show Kd.M (Kd.int .i64) _ _ _ 0 [.int .i64 0] from rfl) (Reps.one (show Kd.M (Kd.int .i64) _ _ _ 0 [.int .i64 0] from rfl) (Reps.one (show Kd.M (Kd.int .i64) _ _ _ 0 [.int .i64 0] from rfl) (Reps.none _ _)))))); intro v267 w76 ho77 hb hg_ hnew_; clear hg_ hnew_; rw [← Ny266.out] at ho77; have n0_ := Aside0.mk (Kd.N_elder' (by (with_reducible repeat (first | apply Kd.N_alloc | apply Kd.N_drewN | apply Kd.N_drew)); exact HO_1.out) (R_base ho77) hb); have n1_ := Aside0.mk (Kd.N_elder' (by (with_reducible repeat (first | apply Kd.N_alloc | apply Kd.N_drewN | apply Kd.N_drew)); exact HO_256003.out) (R_base ho77) hb); have n2_ := Aside0.mk (R_elder' (by (with_reducible repeat (first | apply R_alloc | apply R_drewN | apply R_drew)); exact HO262.out) (R_base ho77) hb); have n3_ := Aside0.mk (Kd.N_elder' (by (with_reducible repeat (first | apply Kd.N_alloc | apply Kd.N_drewN | apply Kd.N_drew)); exact HO265.out) (R_base ho77) hb); have n4_ := Aside0.mk (Kd.R_lower (R_new' ho77 (R_lt (by (with_reducible repeat (first | apply R_alloc | apply R_drewN | apply R_drew)); exact HO262.out))) (below_size (by repeat with_reducible first | exact HB.out | apply below_alloc | apply pw_below_drewN | apply below_drew1 | refine below_set ?_ GE255.out))); have n5_ := Aside0.mk (blk_below (g := gb255) (o := .cells #[.int .i64 0, .int .i64 0, .slice none 0 0, .slice Ao72 x256003_1.length co72] 25 (0, 0)) (by (with_reducible repeat (first | refine blk_drewN ?_ _ | refine blk_drew ?_ | refine blk_alloc ?_ _)); exact BK255.out) hb); have n6_ := Aside0.mk (below_step (by repeat with_reducible first | exact HB.out | apply below_alloc | apply pw_below_drewN | apply below_drew1 | refine below_set ?_ GE255.out) hb); clear HO_1; clear HO_256003; clear HO262; clear HO265; clear BK255; clear HB; have HO_1 := n0_; have HO_256003 := n1_; have HO262 := n2_; have HO265 := n3_; have HO268 := n4_; have BK255 := n5_; have HB := n6_; clear n0_ n1_ n2_ n3_ n4_ n5_ n6_; clear hb ho77; obtain ⟨Ao78, co78, eo78⟩ := Kd.R_slice HO262.out; subst eo78; obtain ⟨Ao79, co79, eo79⟩ := Kd.R_slice HO268.out; subst eo79) | ((with_reducible refine gate_callee (f := 15) rfl ?_); refine goesL_ (some 34) rfl rfl Try.func15 (by kernel_rfl) rfl #[.slice Ao78 t260.length co78, .slice Ao79 y266.length co79] rfl (by (try simp only [List.map_toArray, List.map_cons, List.map_nil]); first | done | rfl) ?_; (with_reducible refine (fettlelaw05_Ints.calls k1 _ _ t260 _ _ y266 false _ ?side1 ?side2 ?side3 ?side4 A24.out).mono ?_); (case side1 => repeat (first | exact (R_reads' HO262.out).2.2 | (with_reducible refine C_alloc ?_ _) | (with_reducible refine C_drewN ?_ _) | (with_reducible refine C_drew ?_))); (case side2 => exact (R_reads' HO262.out).2.1); (case side3 => repeat (first | exact (R_reads' HO268.out).2.2 | (with_reducible refine C_alloc ?_ _) | (with_reducible refine C_drewN ?_ _) | (with_reducible refine C_drew ?_))); (case side4 => exact (R_reads' HO268.out).2.1); rintro e w' ⟨rfl, ⟨nd, rfl⟩⟩; refine ⟨_, rfl, ?_⟩))
  go_ret
  exact ⟨by first | rfl | (simp [errW_none, errW_some] <;> rfl) | (simp [*, errW_none, errW_some] <;> rfl), by repeat (first | (with_reducible first | exact HB.out | apply below_alloc | apply pw_below_drewN | apply below_drew1 | refine below_set ?_ GE255.out) | exact HB.out)⟩

end Go.Proofs.Ytpionncanaamgaa.PDomStays
