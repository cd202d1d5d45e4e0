/- What is amiss with a module, as the checker tells it. Conditions: rows of at most 100000. -/
import Derived.Test.YtckebppacealeaaDoorLm
namespace Go.Proofs.YtckebppacealeaaDoor.Lk
open Go.RowKit Go.Proofs.YtckebppacealeaaDoorW.PrintWords Go.Proofs.YtckebppacealeaaDoorW.PrintLast Go.Proofs.YtckebppacealeaaDoorW.PrintMore Go.Proofs.YtckebppacealeaaDoorW.PrintWords.Kd Go.Proofs.YtckebppacealeaaDoor.PCodeUnlike Go.Proofs.YtckebppacealeaaDoor.Lp
attribute [local go_sem] max2_int min2_int max_two min_two max_three min_three max_four min_four
set_option linter.unusedVariables false
set_option linter.unusedSimpArgs false
variable {w w1 : World}
/-- What is amiss: the place (below 0: none) and the number. -/
def modE (m : List Fn) : Option (Int × Int) :=
  if 32 < m.length then some (-1, 5) else (List.range m.length).findSome? fun i : Nat => (funcE m i).map fun c => ((i : Int), c)
/-- A value that tells of an error: the number itself, or a Spot in new memory. -/
def IsErr (w : World) (base : Nat) : Option (Int × Int) → Value → Prop
  | none, v => v = .nilIface
  | some (a, c), v => (a = -1 ∧ v = .iface 46 (.int .i64 c)) ∨ (0 ≤ a ∧ ∃ g, base ≤ g ∧ v = .iface 67 (.pointer (some ⟨g, 0, none⟩)) ∧ w.heap[g]? = some (.cells #[.int .i64 a, .iface 46 (.int .i64 c)] 72 (0, 0)))
theorem IsErr.below {base : Nat} {r : Option (Int × Int)} {v : Value} (h : IsErr w base r v) (hb : Below w.heap.size w w1) : IsErr w1 base r v := by
  match r, h with
  | none, h => exact h
  | some (a, c), .inl h => exact .inl h
  | some (a, c), .inr ⟨h0, g, h1, h2, h3⟩ => exact .inr ⟨h0, g, h1, h2, blk_below h3 hb⟩
theorem IsErr.lower {base base' : Nat} {r : Option (Int × Int)} {v : Value} (h : IsErr w base r v) (hb : base' ≤ base) : IsErr w base' r v := by
  match r, h with
  | none, h => exact h
  | some (a, c), .inl h => exact .inl h
  | some (a, c), .inr ⟨h0, g, h1, h2, h3⟩ => exact .inr ⟨h0, g, Nat.le_trans hb h1, h2, h3⟩
theorem range_at {β : Type} {g : Nat → Option β} {n k : Nat} (hk : k < n) (h : ∀ j, j < k → g j = none) {c : β} (hc : g k = some c) : (List.range n).findSome? g = some c := by
  induction n with
  | zero => omega
  | succ n ih =>
    rw [List.range_succ, List.findSome?_append]
    by_cases e : k < n
    · rw [ih e]; rfl
    · obtain rfl : k = n := by omega
      have : (List.range k).findSome? g = none := List.findSome?_eq_none_iff.mpr fun x hx => h x (List.mem_range.mp hx)
      rw [this]
      simp [hc]
theorem range_no {β : Type} {g : Nat → Option β} {n : Nat} (h : ∀ j, j < n → g j = none) : (List.range n).findSome? g = none :=
  List.findSome?_eq_none_iff.mpr fun x hx => h x (List.mem_range.mp hx)
set_option maxHeartbeats 8000000 in
set_option maxRecDepth 100000 in
theorem module_any (m : List Fn) (Am : Option Addr) (cm : Nat) (hm : Kd.C k50 w Am m.length m) (hcm : m.length ≤ cm) (hbd : ∀ j, j < m.length → Bd (m.getD j z50).f3) :
    Calls Tryd.prog 20 #[.agg #[.slice Am m.length cm]] w fun e w' => (∃ v, e = .returned v ∧ IsErr w' w.heap.size (modE m) v) ∧ Below w.heap.size w w' := by
  have HM := Aside0.mk hm
  have HCM := Aside0.mk hcm
  have HBD := Aside0.mk hbd
  clear hm hcm hbd
  unfold modE
  by_cases c0 : 32 < m.length
  · rw [if_pos c0]
    have d0 : decide ((32 : Int) < (m.length : Int)) = true := decide_eq_true (by omega)
    clear c0
    go_enter Tryd.func20, Tryd.ntmps20
    go_wp2_with ((with_reducible refine gate_dst (N := 1) rfl ?_); refine box_event ?hg (N := 1) ?hd (cs := #[.slice Am m.length cm]) (t := 24) ?hr ?_; (case hd => rfl); (case hg => rfl); (case hr => first | (go_simp; done) | (go_simp; rfl)); intro gb1 hg w2 hbox hb; have BX1 := Aside0.mk hbox; have H0 := Aside0.mk hb; have HG1 := Aside0.mk hg; have HB := Aside0.mk (Below.refl w2.heap.size w2); clear hbox hb hg; have hx1_0 : w2.cell? ⟨gb1, 0, none⟩ = some (.slice Am m.length cm) := (blk_cell BX1.out 0).trans rfl)
    go_ret
    exact ⟨⟨_, rfl, .inl ⟨rfl, rfl⟩⟩, H0.out⟩
  rw [if_neg c0]
  have d0 : decide ((32 : Int) < (m.length : Int)) = false := decide_eq_false (by omega)
  have hml : m.length ≤ 32 := by omega
  clear c0
  have key : ∀ r, ((List.range m.length).findSome? fun i : Nat => (funcE m i).map fun c => ((i : Int), c)) = r →
      Calls Tryd.prog 20 #[.agg #[.slice Am m.length cm]] w fun e w' => (∃ v, e = .returned v ∧ IsErr w' w.heap.size r v) ∧ Below w.heap.size w w' := by
    intro r hr
    have HV := Aside0.mk hr
    clear hr
    go_enter Tryd.func20, Tryd.ntmps20
    go_wp2_with ((with_reducible refine gate_dst (N := 1) rfl ?_); refine box_event ?hg (N := 1) ?hd (cs := #[.slice Am m.length cm]) (t := 24) ?hr ?_; (case hd => rfl); (case hg => rfl); (case hr => first | (go_simp; done) | (go_simp; rfl)); intro gb1 hg w2 hbox hb; have BX1 := Aside0.mk hbox; have H0 := Aside0.mk hb; have HG1 := Aside0.mk hg; have HB := Aside0.mk (Below.refl w2.heap.size w2); clear hbox hb hg; have hx1_0 : w2.cell? ⟨gb1, 0, none⟩ = some (.slice Am m.length cm) := (blk_cell BX1.out 0).trans rfl)
    clear hx1_0
    go_loopw [13] (fun v13 wr => ∃ k : Nat, k ≤ m.length ∧ v13 = .int .i64 k ∧ Aside0 (∀ j : Nat, j < k → funcE m j = none) ∧ Aside0 (Below w2.heap.size w2 wr)) (fun v13 _ => m.length - (intOf v13).toNat)
    case atStart => exact ⟨0, Nat.zero_le _, rfl, ⟨fun j hj => absurd hj (Nat.not_lt_zero _)⟩, HB⟩
    case round =>
      clear HB
      obtain ⟨k, hk, rfl, HK, HB⟩ := hrel
      by_cases hlt : k < m.length
      · have e0 : decide ((k : Int) < (m.length : Int)) = true := decide_eq_true (by omega)
        have hx1_0 := bx_cell BX1.out HB.out 0 (v := .slice Am m.length cm) rfl
        have hcon := func_any (w := wr) m Am cm (Kd.C_below (Kd.C_below HM.out H0.out) HB.out) HCM.out (k : Int) HBD.out
        cases hq : funcE m (k : Int) with
        | none =>
          have HQ := Aside0.mk hq
          rw [hq] at hcon
          clear hq
          go_wp2_with (fail)
          refine hcon.mono ?_
          rw [errW_none]
          rintro e w6 ⟨rfl, hb⟩
          have HB6 := Aside0.mk (below_step HB.out hb)
          clear hb hcon
          go_wp2
          go_roundw
          case rel =>
            refine ⟨k + 1, hlt, by go_num, ⟨fun j hj => ?_⟩, HB6⟩
            by_cases e : j = k
            · subst e
              exact HQ.out
            · exact HK.out j (by omega)
          case measure => simp [intOf]; omega
        | some q =>
          have HQ := Aside0.mk hq
          rw [hq] at hcon
          clear hq
          go_wp2_with (fail)
          refine hcon.mono ?_
          rw [errW_some]
          rintro e w6 ⟨rfl, hb⟩
          have HB6 := Aside0.mk (below_step HB.out hb)
          clear hb hcon
          have hv := HV.out
          rw [range_at hlt (fun j hj => by rw [HK.out j hj]; rfl) (by rw [HQ.out]; rfl)] at hv
          subst hv
          go_wp2
          go_ret
          exact ⟨⟨_, rfl, .inr ⟨Int.natCast_nonneg _, w6.heap.size, Nat.le_trans H0.out.size HB6.out.size, rfl, blk_new w6 _⟩⟩, below_step H0.out (below_alloc HB6.out _)⟩
      · have e0 : decide ((k : Int) < (m.length : Int)) = false := decide_eq_false (by omega)
        obtain rfl : k = m.length := by omega
        have hv := HV.out
        rw [range_no (fun j hj => by rw [HK.out j hj]; rfl)] at hv
        subst hv
        go_wp2
        go_ret
        exact ⟨⟨_, rfl, rfl⟩, below_step H0.out HB.out⟩
  exact key _ rfl
end Go.Proofs.YtckebppacealeaaDoor.Lk
