/- The comparison that Values sorts by. Conditions: none. -/
import Derived.Test.YtaedbjjjdafabaaTi
import Derived.Test.YtaedbjjjdafabaaSrt
import Derived.StillTailTactics
import Derived.Deep.RegionLaw
import Derived.BigRegion
import Derived.Deep.RegionHeld3
namespace Go.Proofs.Ytaedbjjjdafabaa.Tb
open Go.RowKit Go.Proofs.YtaedbjjjdafabaaW.PrintWords Go.Proofs.YtaedbjjjdafabaaW.PrintLast Go.Proofs.YtaedbjjjdafabaaW.PrintMore Go.Proofs.YtaedbjjjdafabaaW.PrintWords.Kd Go.Maps Go.Proofs.Ytaedbjjjdafabaa.PInternFull
attribute [local go_sem] max2_int min2_int max_two min_two max_three min_three max_four min_four
set_option linter.unusedVariables false
set_option linter.unusedSimpArgs false
variable {w w1 : World} {b gt : Nat} {A : Option Addr} {n c bm m : Nat} {X : List (List (Int × Int))} {D : DataW Unit}
/-- cmp.Compare. -/
def cmpI (a b : Int) : Int := if a < b then -1 else if b < a then 1 else 0
set_option maxHeartbeats 4000000 in
theorem compare22 (a b : Int) (w : World) : Calls Try.prog 22 #[.int .i64 a, .int .i64 b] w fun e w' => e = .returned (.int .i64 (cmpI a b)) ∧ w = w' := by
  unfold cmpI
  have a1 : (a != a) = false := by simp
  have b1 : (b != b) = false := by simp
  by_cases h : a < b
  · rw [if_pos h]
    have d := decide_eq_true h
    go_enter Try.func22, Try.ntmps22
    go_wp2
    go_ret
    exact ⟨rfl, rfl⟩
  · rw [if_neg h]
    have d := decide_eq_false h
    by_cases h2 : b < a
    · rw [if_pos h2]
      have d2 := decide_eq_true h2
      go_enter Try.func22, Try.ntmps22
      go_wp2
      go_ret
      exact ⟨rfl, rfl⟩
    · rw [if_neg h2]
      have d2 := decide_eq_false h2
      go_enter Try.func22, Try.ntmps22
      go_wp2
      go_ret
      exact ⟨rfl, rfl⟩
set_option maxHeartbeats 4000000 in
theorem compare23 (a b : Int) (w : World) : Calls Try.prog 23 #[.int .i64 a, .int .i64 b] w fun e w' => e = .returned (.int .i64 (cmpI a b)) ∧ w = w' := by
  unfold cmpI
  have a1 : (a != a) = false := by simp
  have b1 : (b != b) = false := by simp
  by_cases h : a < b
  · rw [if_pos h]
    have d := decide_eq_true h
    go_enter Try.func23, Try.ntmps23
    go_wp2
    go_ret
    exact ⟨rfl, rfl⟩
  · rw [if_neg h]
    have d := decide_eq_false h
    by_cases h2 : b < a
    · rw [if_pos h2]
      have d2 := decide_eq_true h2
      go_enter Try.func23, Try.ntmps23
      go_wp2
      go_ret
      exact ⟨rfl, rfl⟩
    · rw [if_neg h2]
      have d2 := decide_eq_false h2
      go_enter Try.func23, Try.ntmps23
      go_wp2
      go_ret
      exact ⟨rfl, rfl⟩
/-- cmp.Or of two. -/
def orI (a b : Int) : Int := if a ≠ 0 then a else b
set_option maxHeartbeats 4000000 in
theorem or21 (a b : Int) (g : Nat) (w : World) (ha : w.cell? ⟨g, 0, none⟩ = some (.int .i64 a)) (hb : w.cell? ⟨g, 1, none⟩ = some (.int .i64 b)) :
    Calls Try.prog 21 #[.slice (some ⟨g, 0, none⟩) 2 2] w fun e w' => e = .returned (.int .i64 (orI a b)) ∧ w = w' := by
  go_enter Try.func21, Try.ntmps21
  go_wp2
  go_loop [8] (fun i => ∃ k : Nat, k ≤ 2 ∧ i = .int .i64 k ∧ Aside0 ((1 ≤ k → a = 0) ∧ (2 ≤ k → b = 0))) (fun i => 2 - (intOf i).toNat)
  case atStart => exact ⟨0, by omega, rfl, ⟨fun h => by omega, fun h => by omega⟩⟩
  case round =>
    obtain ⟨k, hk, rfl, HZ⟩ := hrel
    obtain rfl | rfl | rfl : k = 0 ∨ k = 1 ∨ k = 2 := by omega
    · by_cases h : a = 0
      · have h1 : (a != 0) = false := by simp [h]
        have HA := Aside0.mk h
        clear h
        go_wp2
        go_round
        case rel => exact ⟨1, by omega, rfl, ⟨fun _ => HA.out, fun h => by omega⟩⟩
        case measure => simp [intOf]
      · have h1 : (a != 0) = true := by simp [h]
        have HA := Aside0.mk h
        clear h
        go_wp2
        go_ret
        exact ⟨by unfold orI; rw [if_pos HA.out]; rfl, rfl⟩
    · have e := HZ.out.1 (by omega)
      by_cases h : b = 0
      · have h1 : (b != 0) = false := by simp [h]
        have HA := Aside0.mk h
        have HE := Aside0.mk e
        clear h e
        go_wp2
        go_round
        case rel => exact ⟨2, by omega, rfl, ⟨fun _ => HE.out, fun h => HA.out⟩⟩
        case measure => show 2 - (2 : Int).toNat < _; decide
      · have h1 : (b != 0) = true := by simp [h]
        have HE := Aside0.mk e
        clear h e
        go_wp2
        go_ret
        exact ⟨by unfold orI; rw [if_neg (by simp [HE.out])]; rfl, rfl⟩
    · have e := HZ.out.1 (by omega)
      have e2 := HZ.out.2 (by omega)
      have HE := Aside0.mk e
      have HE2 := Aside0.mk e2
      clear e e2
      go_wp2
      go_ret
      exact ⟨by unfold orI; rw [if_neg (by simp [HE.out]), HE2.out]; rfl, rfl⟩
/-- Values$1. -/
def cmpV (x y : Int × Int) : Int := orI (cmpI x.1 y.1) (cmpI x.2 y.2)
set_option maxHeartbeats 4000000 in
set_option maxRecDepth 100000 in
theorem closure20 (x1 x2 y1 y2 : Int) (w : World) : Calls Try.prog 20 #[.agg #[.int .i64 x1, .int .i64 x2], .agg #[.int .i64 y1, .int .i64 y2]] w fun e w' => e = .returned (.int .i64 (cmpV (x1, x2) (y1, y2))) ∧ ∃ q os, w' = Go.Sort.grow (w.drewN q) os := by
  unfold cmpV
  generalize hA : cmpI (x1, x2).1 (y1, y2).1 = a
  generalize hB : cmpI (x1, x2).2 (y1, y2).2 = b
  have c1 := fun w => compare22 x1 y1 w
  have c2 := fun w => compare23 x2 y2 w
  simp only at hA hB
  rw [hA] at c1
  rw [hB] at c2
  have C1 := Aside0.mk c1
  have C2 := Aside0.mk c2
  clear c1 c2 hA hB
  go_enter Try.func20, Try.ntmps20
  go_wp2
  have B0 := blk_below (blk_new w (.cells #[.int .i64 x1, .int .i64 x2] 40)) (below_alloc (Below.refl _ _) (.cells #[.int .i64 y1, .int .i64 y2] 40))
  have B1 := blk_new (w.alloc (.cells #[.int .i64 x1, .int .i64 x2] 40)) (.cells #[.int .i64 y1, .int .i64 y2] 40)
  rw [show (w.alloc (.cells #[.int .i64 x1, .int .i64 x2] 40)).heap.size = w.heap.size + 1 from by show (w.heap.push _).size = _; simp] at B1
  have E2 : (w.alloc (.cells #[.int .i64 x1, .int .i64 x2] 40)).alloc (.cells #[.int .i64 y1, .int .i64 y2] 40) = Go.Sort.grow w #[.cells #[.int .i64 x1, .int .i64 x2] 40, .cells #[.int .i64 y1, .int .i64 y2] 40] := by
    rw [Go.Sort.alloc_eq_grow, Go.Sort.alloc_eq_grow, Go.Sort.grow_grow]; rfl
  have HE2 := Aside0.mk E2
  clear E2
  generalize (w.alloc (.cells #[.int .i64 x1, .int .i64 x2] 40)).alloc (.cells #[.int .i64 y1, .int .i64 y2] 40) = w2 at B0 B1 HE2 ⊢
  have hx0 := (blk_cell B0 0).trans (show _ = some (.int .i64 x1) from rfl)
  have hx1 := (blk_cell B0 1).trans (show _ = some (.int .i64 x2) from rfl)
  have hy0 := (blk_cell B1 0).trans (show _ = some (.int .i64 y1) from rfl)
  have hy1 := (blk_cell B1 1).trans (show _ = some (.int .i64 y2) from rfl)
  clear B0 B1
  refine wp_region_still_tail 10 (by kernel_rfl) (by kernel_rfl) ?_
  simp only [List.take_succ_cons, List.take_zero, List.drop_succ_cons, List.drop_zero]
  repeat still_step
  still_call ((C1.out _).mono fun _ _ h => ⟨h.1, h.2.symm⟩)
  repeat still_step
  still_call ((C2.out _).mono fun _ _ h => ⟨h.1, h.2.symm⟩)
  refine wpStill_nil ?_
  change wpList _ _ _ _ _ w2.drew
  have HE3 : Aside0 (w2.drew = Go.Sort.grow (w.drewN 1) #[.cells #[.int .i64 x1, .int .i64 x2] 40, .cells #[.int .i64 y1, .int .i64 y2] 40]) := ⟨by rw [HE2.out]; rfl⟩
  clear hx0 hx1 hy0 hy1 HE2
  generalize w2.drew = w3 at HE3 ⊢
  have hb := blk_new w3 (.cells #[.int .i64 a, .int .i64 b] 3)
  have HC0 := Aside0.mk ((blk_cell hb 0).trans (show _ = some (.int .i64 a) from rfl))
  have HC1 := Aside0.mk ((blk_cell hb 1).trans (show _ = some (.int .i64 b) from rfl))
  clear hb
  go_wp2_with (go_at_call 21; refine (or21 a b _ _ HC0.out HC1.out).mono ?_; rintro e w4 ⟨rfl, rfl⟩)
  go_ret
  exact ⟨rfl, 1, _, by rw [Go.Sort.alloc_eq_grow, HE3.out, Go.Sort.grow_grow]⟩
end Go.Proofs.Ytaedbjjjdafabaa.Tb
