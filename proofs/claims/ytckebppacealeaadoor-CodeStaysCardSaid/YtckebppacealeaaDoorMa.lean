/- fettleref02.ints and Same tell whether two lists, two modules are the same. Conditions: none. -/
import Derived.Test.YtckebppacealeaaDoorLm
namespace Go.Proofs.YtckebppacealeaaDoor.Lk
open Go.RowKit Go.Proofs.YtckebppacealeaaDoorW.PrintWords Go.Proofs.YtckebppacealeaaDoorW.PrintLast Go.Proofs.YtckebppacealeaaDoorW.PrintMore Go.Proofs.YtckebppacealeaaDoorW.PrintWords.Kd Go.Proofs.YtckebppacealeaaDoor.PCodeUnlike Go.Proofs.YtckebppacealeaaDoor.Lp
attribute [local go_sem] max2_int min2_int max_two min_two max_three min_three max_four min_four
set_option linter.unusedVariables false
set_option linter.unusedSimpArgs false
variable {w w1 : World}
/-- The answer r to a question. -/
def Says (w : World) (P : Prop) (e : Ending) (w' : World) : Prop := (∃ r : Bool, e = .returned (.bool r) ∧ (r = true ↔ P)) ∧ Below w.heap.size w w'
theorem ext_at {α : Type} {z : α} {l m : List α} (h : l.length = m.length) (g : ∀ j, j < l.length → l.getD j z = m.getD j z) : l = m := ext_getD z h g
set_option maxHeartbeats 4000000 in
set_option maxRecDepth 100000 in
theorem ints_any (xs ys : List Int) (A B : Option Addr) (c d : Nat) (hx : Kd.C (Kd.int .i64) w A xs.length xs) (hy : Kd.C (Kd.int .i64) w B ys.length ys) :
    Calls Tryd.prog 57 #[.slice A xs.length c, .slice B ys.length d] w (Says w (xs = ys)) := by
  have HX := Aside0.mk hx
  have HY := Aside0.mk hy
  have HB := Aside0.mk (Below.refl w.heap.size w)
  clear hx hy
  by_cases c0 : (xs.length : Int) = (ys.length : Int)
  rotate_left
  · have d1 : ((xs.length : Int) == (ys.length : Int)) = false := beq_eq_false_iff_ne.mpr c0
    have d2 : ((xs.length : Int) != (ys.length : Int)) = true := bne_iff_ne.mpr c0
    have hno : ¬ xs = ys := fun h => c0 (by rw [h])
    have HNO := Aside0.mk hno
    clear c0 hno
    go_enter Tryd.func57, Tryd.ntmps57
    go_wp2
    go_ret
    exact ⟨⟨false, rfl, ⟨fun h => (by cases h), fun h => absurd h HNO.out⟩⟩, HB.out⟩
  · have hl : xs.length = ys.length := by omega
    have HL := Aside0.mk hl
    have d1 : ((xs.length : Int) == (ys.length : Int)) = true := beq_iff_eq.mpr c0
    have d2 : ((xs.length : Int) != (ys.length : Int)) = false := by rw [bne, d1]; rfl
    clear c0 hl
    go_enter Tryd.func57, Tryd.ntmps57
    go_wp2
    go_loopw [5] (fun v5 wr => ∃ k : Nat, k ≤ xs.length ∧ v5 = .int .i64 k ∧ Aside0 (∀ j, j < k → xs.getD j 0 = ys.getD j 0) ∧ Aside0 (Below w.heap.size w wr)) (fun v5 _ => xs.length - (intOf v5).toNat)
    case atStart => exact ⟨0, Nat.zero_le _, rfl, ⟨fun j hj => absurd hj (Nat.not_lt_zero _)⟩, HB⟩
    case round =>
      clear HB d1 d2
      obtain ⟨k, hk, rfl, HK, HB⟩ := hrel
      have hxl := HX.out.2.1
      by_cases hlt : k < xs.length
      · have e0 : decide ((k : Int) < (xs.length : Int)) = true := decide_eq_true (by omega)
        have p0 : 0 ≤ (k : Int) := by omega
        have q0 : (k : Int) < (xs.length : Int) := by omega
        have q2 : (k : Int) < (ys.length : Int) := by have := HL.out; omega
        obtain ⟨ax, ex, hxx⟩ := Kd.at_int (Kd.C_below HX.out HB.out) k p0 q0
        obtain ⟨ay, ey, hyy⟩ := Kd.at_int (Kd.C_below HY.out HB.out) k p0 q2
        cases ex
        cases ey
        rw [Int.toNat_natCast] at hxx hyy
        have p1 := eq_true p0
        have q1 := eq_true q0
        have q3 := eq_true q2
        have hx2 : rd xs (k : Int) = xs.getD k 0 := rfl
        have hy2 : rd ys (k : Int) = ys.getD k 0 := rfl
        rw [hx2] at hxx
        rw [hy2] at hyy
        clear hx2 hy2 p0 q0 q2
        by_cases he : xs.getD k 0 = ys.getD k 0
        · have HE := Aside0.mk he
          rw [← he] at hyy
          clear he
          generalize xs.getD k 0 = x at hxx hyy
          go_wp2
          go_quiet (fail)
          go_wp2
          go_roundw
          case rel =>
            refine ⟨k + 1, hlt, by go_num, ⟨fun j hj => ?_⟩, ⟨pw_below_drewN HB.out _⟩⟩
            by_cases e : j = k
            · subst e; exact HE.out
            · exact HK.out j (by omega)
          case measure => simp [intOf]; omega
        · have HE := Aside0.mk he
          have d1 := beq_eq_false_iff_ne.mpr he
          have d2 := bne_iff_ne.mpr he
          have HNO := Aside0.mk (show ¬ xs = ys from fun h => he (by rw [h]))
          clear he HE
          generalize xs.getD k 0 = x at *
          generalize ys.getD k 0 = y at *
          go_wp2
          go_quiet (fail)
          go_wp2
          go_ret
          exact ⟨⟨false, rfl, ⟨fun h => (by cases h), fun h => absurd h HNO.out⟩⟩, pw_below_drewN HB.out _⟩
      · have e0 : decide ((k : Int) < (xs.length : Int)) = false := decide_eq_false (by omega)
        obtain rfl : k = xs.length := by omega
        go_wp2
        go_ret
        exact ⟨⟨true, rfl, ⟨fun _ => ext_at (z := (0 : Int)) HL.out HK.out, fun _ => rfl⟩⟩, HB.out⟩
end Go.Proofs.YtckebppacealeaaDoor.Lk
