/- Whether a function's registers, parameters and result have types, as the checker tells it. Conditions: none. -/
import Derived.Test.YtckebppacealeaaDoorLi
namespace Go.Proofs.YtckebppacealeaaDoor.Lk
open Go.RowKit Go.Proofs.YtckebppacealeaaDoorW.PrintWords Go.Proofs.YtckebppacealeaaDoorW.PrintLast Go.Proofs.YtckebppacealeaaDoorW.PrintMore Go.Proofs.YtckebppacealeaaDoorW.PrintWords.Kd Go.Proofs.YtckebppacealeaaDoor.PCodeUnlike
attribute [local go_sem] max2_int min2_int max_two min_two max_three min_three max_four min_four
set_option linter.unusedVariables false
set_option linter.unusedSimpArgs false
variable {w w1 : World}
def valB (t : Int) : Bool := t == 1 || t == 2
def typedB (f : Fn) : Bool :=
  if f.f2.all valB = true then (if 0 ≤ f.f0 then (if f.f0 ≤ 8 then (if f.f0 ≤ f.f2.length then (if f.f1 = 0 then true else valB f.f1) else false) else false) else false) else false
theorem value_any (t : Int) (w : World) : Calls Tryd.prog 74 #[.int .i64 t] w fun e w' => e = .returned (.bool (valB t)) ∧ Below w.heap.size w w' := by
  have key : check_value.f t = some (valB t) := by
    unfold check_value.f valB
    by_cases h : t = 1
    · rw [if_pos h, h]; rfl
    · have e : (t == 1) = false := beq_eq_false_iff_ne.mpr h
      rw [if_neg h, e]; rfl
  exact (check_value.calls t _ w key).mono fun _ _ ⟨he, hd⟩ => ⟨he, hd.below⟩
theorem typed1_any (t : Int) (w : World) : Calls Tryd.prog 73 #[.int .i64 t] w fun e w' => e = .returned (.bool (!(valB t))) ∧ Below w.heap.size w w' := by
  have hcon := fun W => value_any t W
  go_enter Tryd.func73, Tryd.ntmps73
  go_wp2_with (go_at_call 74; refine (hcon _).mono ?_; rintro e w2 ⟨rfl, hb⟩; have HB := Aside0.mk hb; clear hb)
  go_ret
  exact ⟨rfl, HB.out⟩
theorem any_not (l : List Int) : l.any (fun t => !(valB t)) = !(l.all valB) := by
  induction l with
  | nil => rfl
  | cons x l ih => rw [List.any_cons, List.all_cons, ih, Bool.not_and]
set_option maxHeartbeats 8000000 in
set_option maxRecDepth 100000 in
theorem typed_any (f : Fn) (Ar : Option Addr) (cr : Nat) (Ab : Option Addr) (cb : Nat) (hr : Kd.C (Kd.int .i64) w Ar f.f2.length f.f2) :
    Calls Tryd.prog 62 #[.agg #[.int .i64 f.f0, .int .i64 f.f1, .slice Ar f.f2.length cr, .slice Ab f.f3.length cb]] w fun e w' => e = .returned (.bool (typedB f)) ∧ Below w.heap.size w w' := by
  have HR := Aside0.mk hr
  clear hr
  have eg : ∀ args w, (callFunc 73 args).run Tryd.prog w = .ok (.enter 73 args) w := enters_of Tryd.func73 (by kernel_rfl) rfl
  have EG := Aside0.mk eg
  clear eg
  obtain ⟨a, b, l, B⟩ := f
  unfold typedB
  dsimp only at *
  generalize B.length = nB
  have hcon := fun W (hW : Below w.heap.size w W) => containsF_any 73 #[] EG.out l Ar cr (fun t => !(valB t)) W (Kd.C_below HR.out hW) (fun x _ W' hW' => typed1_any x W')
  rw [any_not] at hcon
  have HC := Aside0.mk hcon
  clear hcon HR EG
  have key : ∀ v, l.all valB = v → ∀ r, (if v = true then (if 0 ≤ a then (if a ≤ 8 then (if a ≤ (l.length : Int) then (if b = 0 then true else valB b) else false) else false) else false) else false) = r →
      Calls Tryd.prog 62 #[.agg #[.int .i64 a, .int .i64 b, .slice Ar l.length cr, .slice Ab nB cb]] w fun e w' => e = .returned (.bool r) ∧ Below w.heap.size w w' := by
    intro v hv r hr
    rw [hv] at HC
    cases v with
    | false =>
      rw [if_neg (by simp)] at hr
      subst hr
      clear hv
      go_enter Tryd.func62, Tryd.ntmps62
      go_wp2_with ((with_reducible refine gate_dst (N := 1) rfl ?_); refine box_event ?hg (N := 1) ?hd (cs := #[.int .i64 a, .int .i64 b, .slice Ar l.length cr, .slice Ab nB cb]) (t := 50) ?hr ?_; (case hd => rfl); (case hg => rfl); (case hr => first | (go_simp; done) | (go_simp; rfl)); intro gb1 hg w2 hbox hb; have BX1 := Aside0.mk hbox; have H0 := Aside0.mk hb; have HG1 := Aside0.mk hg; have HB := Aside0.mk (Below.refl w2.heap.size w2); clear hbox hb hg; have hx1_0 : w2.cell? ⟨gb1, 0, none⟩ = some (.int .i64 a) := (blk_cell BX1.out 0).trans rfl; have hx1_1 : w2.cell? ⟨gb1, 1, none⟩ = some (.int .i64 b) := (blk_cell BX1.out 1).trans rfl; have hx1_2 : w2.cell? ⟨gb1, 2, none⟩ = some (.slice Ar l.length cr) := (blk_cell BX1.out 2).trans rfl; have hx1_3 : w2.cell? ⟨gb1, 3, none⟩ = some (.slice Ab nB cb) := (blk_cell BX1.out 3).trans rfl)
      refine (HC.out _ H0.out).mono ?_
      rintro e w3 ⟨rfl, hb⟩
      have HB := Aside0.mk hb
      clear hb
      go_wp2
      go_ret
      exact ⟨rfl, below_step H0.out HB.out⟩
    | true =>
      rw [if_pos (show true = true from rfl)] at hr
      clear hv
      have HV := Aside0.mk hr
      clear hr
      go_enter Tryd.func62, Tryd.ntmps62
      go_wp2_with ((with_reducible refine gate_dst (N := 1) rfl ?_); refine box_event ?hg (N := 1) ?hd (cs := #[.int .i64 a, .int .i64 b, .slice Ar l.length cr, .slice Ab nB cb]) (t := 50) ?hr ?_; (case hd => rfl); (case hg => rfl); (case hr => first | (go_simp; done) | (go_simp; rfl)); intro gb1 hg w2 hbox hb; have BX1 := Aside0.mk hbox; have H0 := Aside0.mk hb; have HG1 := Aside0.mk hg; have HB := Aside0.mk (Below.refl w2.heap.size w2); clear hbox hb hg; have hx1_0 : w2.cell? ⟨gb1, 0, none⟩ = some (.int .i64 a) := (blk_cell BX1.out 0).trans rfl; have hx1_1 : w2.cell? ⟨gb1, 1, none⟩ = some (.int .i64 b) := (blk_cell BX1.out 1).trans rfl; have hx1_2 : w2.cell? ⟨gb1, 2, none⟩ = some (.slice Ar l.length cr) := (blk_cell BX1.out 2).trans rfl; have hx1_3 : w2.cell? ⟨gb1, 3, none⟩ = some (.slice Ab nB cb) := (blk_cell BX1.out 3).trans rfl)
      refine (HC.out _ H0.out).mono ?_
      rintro e w3 ⟨rfl, hb⟩
      have HB := Aside0.mk hb
      clear hb
      have hx1_0 := bx_cell BX1.out HB.out 0 (v := .int .i64 a) rfl
      have hx1_1 := bx_cell BX1.out HB.out 1 (v := .int .i64 b) rfl
      have hx1_2 := bx_cell BX1.out HB.out 2 (v := .slice Ar l.length cr) rfl
      have hr := HV.out
      by_cases c1 : 0 ≤ a
      rotate_left
      · rw [if_neg c1] at hr
        subst hr
        have d1 : decide (0 ≤ a) = false := decide_eq_false c1
        clear c1
        go_wp2
        go_ret
        exact ⟨rfl, below_step H0.out HB.out⟩
      rw [if_pos c1] at hr
      have d1 : decide (0 ≤ a) = true := decide_eq_true c1
      by_cases c2 : a ≤ 8
      rotate_left
      · rw [if_neg c2] at hr
        subst hr
        have d2 : decide (a ≤ 8) = false := decide_eq_false c2
        clear c1 c2
        go_wp2
        go_ret
        exact ⟨rfl, below_step H0.out HB.out⟩
      rw [if_pos c2] at hr
      have d2 : decide (a ≤ 8) = true := decide_eq_true c2
      by_cases c3 : a ≤ (l.length : Int)
      rotate_left
      · rw [if_neg c3] at hr
        subst hr
        have d3 : decide (a ≤ (l.length : Int)) = false := decide_eq_false c3
        clear c1 c2 c3
        go_wp2
        go_ret
        exact ⟨rfl, below_step H0.out HB.out⟩
      rw [if_pos c3] at hr
      have d3 : decide (a ≤ (l.length : Int)) = true := decide_eq_true c3
      clear c1 c2 c3
      by_cases c4 : b = 0
      · rw [if_pos c4] at hr
        subst hr
        rw [c4] at hx1_1
        clear c4
        go_wp2
        go_ret
        exact ⟨rfl, below_step H0.out HB.out⟩
      · rw [if_neg c4] at hr
        have d4 : (b == 0) = false := beq_eq_false_iff_ne.mpr c4
        clear c4
        subst hr
        go_wp2_with (fail)
        refine (value_any b _).mono ?_
        rintro e w4 ⟨rfl, hb⟩
        have HB4 := Aside0.mk (below_step HB.out hb)
        clear hb
        go_wp2
        go_ret
        exact ⟨rfl, below_step H0.out HB4.out⟩
  exact key _ rfl _ rfl
end Go.Proofs.YtckebppacealeaaDoor.Lk
