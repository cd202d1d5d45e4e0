/- What is amiss with a block and its end, as the checker tells it. Conditions: the looker stands. -/
import Derived.Test.YtckebppacealeaaDoorLg
namespace Go.Proofs.YtckebppacealeaaDoor.Lk
open Go.RowKit Go.Proofs.YtckebppacealeaaDoorW.PrintWords Go.Proofs.YtckebppacealeaaDoorW.PrintLast Go.Proofs.YtckebppacealeaaDoorW.PrintMore Go.Proofs.YtckebppacealeaaDoorW.PrintWords.Kd Go.Proofs.YtckebppacealeaaDoor.PCodeUnlike
attribute [local go_sem] max2_int min2_int max_two min_two max_three min_three max_four min_four
set_option linter.unusedVariables false
set_option linter.unusedSimpArgs false
variable {w w1 : World} {bl : Nat} {m : List Fn} {f : Fn} {Am : Option Addr} {cm : Nat} {Ar : Option Addr} {cr : Nat} {Ab : Option Addr} {cb : Nat}
def endE (f : Fn) (t : Tm) : Option Int :=
  if t.f0 = 1 then (if t.f1 = -1 then none else some 3)
  else if t.f0 = 3 then (if f.f1 = 0 then (if t.f1 = -1 then none else some 3) else (if hasB f [t.f1] = true then (if areB f f.f1 [t.f1] = true then none else some 3) else some 4))
  else (if hasB f [t.f1] = true then (if areB f 2 [t.f1] = true then none else some 3) else some 4)
theorem find_at {α : Type} {g : α → Option Int} {z : α} : ∀ {l : List α} {k : Nat}, k < l.length → (∀ j, j < k → g (l.getD j z) = none) → ∀ {c : Int}, g (l.getD k z) = some c → l.findSome? g = some c
  | [], k, hk, _, _, _ => absurd hk (Nat.not_lt_zero _)
  | x :: l, 0, _, _, c, hc => by
    have h0 : g x = some c := hc
    simp [List.findSome?, h0]
  | x :: l, k + 1, hk, h, c, hc => by
    have h0 : g x = none := h 0 (Nat.succ_pos _)
    rw [List.findSome?_cons, h0]
    exact find_at (Nat.lt_of_succ_lt_succ hk) (fun j hj => h (j + 1) (Nat.succ_lt_succ hj)) hc
theorem find_no {α : Type} {g : α → Option Int} {z : α} : ∀ {l : List α}, (∀ j, j < l.length → g (l.getD j z) = none) → l.findSome? g = none
  | [], _ => rfl
  | x :: l, h => by
    have h0 : g x = none := h 0 (Nat.succ_pos _)
    rw [List.findSome?_cons, h0]
    exact find_no fun j hj => h (j + 1) (Nat.succ_lt_succ hj)
set_option maxHeartbeats 4000000 in
set_option maxRecDepth 100000 in
theorem end_any (h : Lk w bl m f Am cm Ar cr Ab cb) (t : Tm) (A : Option Addr) (c : Nat) :
    Calls Tryd.prog 79 #[.pointer (some ⟨bl, 0, none⟩), .agg #[.int .i64 t.f0, .int .i64 t.f1, .slice A t.f2.length c]] w fun e w' => e = .returned (errW (endE f t)) ∧ Below w.heap.size w w' := by
  have HL := Aside0.mk h
  clear h
  obtain ⟨kd, ar, ts⟩ := t
  unfold endE
  dsimp only at *
  generalize ts.length = nt
  by_cases k1 : kd = 1
  · subst k1
    rw [if_pos (show (1 : Int) = 1 from rfl)]
    by_cases a1 : ar = -1
    · subst a1
      rw [if_pos (show (-1 : Int) = -1 from rfl)]
      go_enter Tryd.func79, Tryd.ntmps79
      go_wp2_with ((with_reducible refine gate_dst (N := 3) rfl ?_); refine box_event ?hg (N := 3) ?hd (cs := #[.int .i64 1, .int .i64 (-1), .slice A nt c]) (t := 54) ?hr ?_; (case hd => rfl); (case hg => rfl); (case hr => first | (go_simp; done) | (go_simp; rfl)); intro gb3 hg w2 hbox hb; have BX3 := Aside0.mk hbox; have H0 := Aside0.mk hb; have HG3 := Aside0.mk hg; have HB := Aside0.mk (Below.refl w2.heap.size w2); clear hbox hb hg; have hx3_0 : w2.cell? ⟨gb3, 0, none⟩ = some (.int .i64 1) := (blk_cell BX3.out 0).trans rfl; have hx3_1 : w2.cell? ⟨gb3, 1, none⟩ = some (.int .i64 (-1)) := (blk_cell BX3.out 1).trans rfl; have hx3_2 : w2.cell? ⟨gb3, 2, none⟩ = some (.slice A nt c) := (blk_cell BX3.out 2).trans rfl)
      go_ret
      exact ⟨rfl, H0.out⟩
    · rw [if_neg a1]
      have d1 : (ar == -1) = false := beq_eq_false_iff_ne.mpr a1
      have d2 : (ar != -1) = true := bne_iff_ne.mpr a1
      clear a1
      go_enter Tryd.func79, Tryd.ntmps79
      go_wp2_with ((with_reducible refine gate_dst (N := 3) rfl ?_); refine box_event ?hg (N := 3) ?hd (cs := #[.int .i64 1, .int .i64 ar, .slice A nt c]) (t := 54) ?hr ?_; (case hd => rfl); (case hg => rfl); (case hr => first | (go_simp; done) | (go_simp; rfl)); intro gb3 hg w2 hbox hb; have BX3 := Aside0.mk hbox; have H0 := Aside0.mk hb; have HG3 := Aside0.mk hg; have HB := Aside0.mk (Below.refl w2.heap.size w2); clear hbox hb hg; have hx3_0 : w2.cell? ⟨gb3, 0, none⟩ = some (.int .i64 1) := (blk_cell BX3.out 0).trans rfl; have hx3_1 : w2.cell? ⟨gb3, 1, none⟩ = some (.int .i64 ar) := (blk_cell BX3.out 1).trans rfl; have hx3_2 : w2.cell? ⟨gb3, 2, none⟩ = some (.slice A nt c) := (blk_cell BX3.out 2).trans rfl)
      go_ret
      exact ⟨rfl, H0.out⟩
  rw [if_neg k1]
  have e1 : (kd == 1) = false := beq_eq_false_iff_ne.mpr k1
  clear k1
  -- behind the first test: the register's type
  have key : ∀ want b1 b2, hasB f [ar] = b1 → areB f want [ar] = b2 → (kd = 3 ∧ f.f1 ≠ 0 ∧ want = f.f1 ∨ kd ≠ 3 ∧ want = 2) →
      Calls Tryd.prog 79 #[.pointer (some ⟨bl, 0, none⟩), .agg #[.int .i64 kd, .int .i64 ar, .slice A nt c]] w fun e w' => e = .returned (errW (if b1 = true then (if b2 = true then none else some 3) else some 4)) ∧ Below w.heap.size w w' := by
    intro want b1 b2 h1 h2 hk
    have H1 := Aside0.mk h1
    have H2 := Aside0.mk h2
    clear h1 h2
    rcases hk with ⟨rfl, hn, rfl⟩ | ⟨k3, rfl⟩
    · have d1 : (f.f1 == 0) = false := beq_eq_false_iff_ne.mpr hn
      clear hn
      go_enter Tryd.func79, Tryd.ntmps79
      go_wp2_with ((with_reducible refine gate_dst (N := 3) rfl ?_); refine box_event ?hg (N := 3) ?hd (cs := #[.int .i64 3, .int .i64 ar, .slice A nt c]) (t := 54) ?hr ?_; (case hd => rfl); (case hg => rfl); (case hr => first | (go_simp; done) | (go_simp; rfl)); intro gb3 hg w2 hbox hb; have BX3 := Aside0.mk hbox; have H0 := Aside0.mk hb; have HG3 := Aside0.mk hg; have HB := Aside0.mk (Below.refl w2.heap.size w2); clear hbox hb hg; have hx3_0 : w2.cell? ⟨gb3, 0, none⟩ = some (.int .i64 3) := (blk_cell BX3.out 0).trans rfl; have hx3_1 : w2.cell? ⟨gb3, 1, none⟩ = some (.int .i64 ar) := (blk_cell BX3.out 1).trans rfl; have hx3_2 : w2.cell? ⟨gb3, 2, none⟩ = some (.slice A nt c) := (blk_cell BX3.out 2).trans rfl; have hc2 := (blk_cell (HL.out.below H0.out).blk 2).trans (show _ = some (.int .i64 f.f1) from rfl))
      refine (has_any ((HL.out.below H0.out).below (below_alloc (Below.refl _ _) _)) [ar] _ _ (row_new w2 [ar] (by simp) _)).mono ?_
      rw [H1.out]
      rintro e w3 ⟨rfl, hb⟩
      have HB := Aside0.mk (below_step (below_alloc HB.out _) hb)
      clear hb hc2
      cases b1
      · go_wp2
        go_ret
        exact ⟨rfl, below_step H0.out HB.out⟩
      · have hx3_1 := bx_cell BX3.out HB.out 1 (v := .int .i64 ar) rfl
        go_wp2_with (fail)
        refine (are_any ((HL.out.below H0.out).below (below_alloc HB.out _)) f.f1 [ar] _ _ (row_new _ [ar] (by simp) _) H1.out).mono ?_
        rw [H2.out]
        rintro e w4 ⟨rfl, hb⟩
        have HB := Aside0.mk (below_step (below_alloc HB.out _) hb)
        clear hb
        cases b2
        all_goals
          go_wp2
          go_ret
          exact ⟨rfl, below_step H0.out HB.out⟩
    · have d1 : (kd == 3) = false := beq_eq_false_iff_ne.mpr k3
      clear k3
      go_enter Tryd.func79, Tryd.ntmps79
      go_wp2_with ((with_reducible refine gate_dst (N := 3) rfl ?_); refine box_event ?hg (N := 3) ?hd (cs := #[.int .i64 kd, .int .i64 ar, .slice A nt c]) (t := 54) ?hr ?_; (case hd => rfl); (case hg => rfl); (case hr => first | (go_simp; done) | (go_simp; rfl)); intro gb3 hg w2 hbox hb; have BX3 := Aside0.mk hbox; have H0 := Aside0.mk hb; have HG3 := Aside0.mk hg; have HB := Aside0.mk (Below.refl w2.heap.size w2); clear hbox hb hg; have hx3_0 : w2.cell? ⟨gb3, 0, none⟩ = some (.int .i64 kd) := (blk_cell BX3.out 0).trans rfl; have hx3_1 : w2.cell? ⟨gb3, 1, none⟩ = some (.int .i64 ar) := (blk_cell BX3.out 1).trans rfl; have hx3_2 : w2.cell? ⟨gb3, 2, none⟩ = some (.slice A nt c) := (blk_cell BX3.out 2).trans rfl)
      refine (has_any ((HL.out.below H0.out).below (below_alloc (Below.refl _ _) _)) [ar] _ _ (row_new w2 [ar] (by simp) _)).mono ?_
      rw [H1.out]
      rintro e w3 ⟨rfl, hb⟩
      have HB := Aside0.mk (below_step (below_alloc HB.out _) hb)
      clear hb
      cases b1
      · go_wp2
        go_ret
        exact ⟨rfl, below_step H0.out HB.out⟩
      · have hx3_1 := bx_cell BX3.out HB.out 1 (v := .int .i64 ar) rfl
        go_wp2_with (fail)
        refine (are_any ((HL.out.below H0.out).below (below_alloc HB.out _)) 2 [ar] _ _ (row_new _ [ar] (by simp) _) H1.out).mono ?_
        rw [H2.out]
        rintro e w4 ⟨rfl, hb⟩
        have HB := Aside0.mk (below_step (below_alloc HB.out _) hb)
        clear hb
        cases b2
        all_goals
          go_wp2
          go_ret
          exact ⟨rfl, below_step H0.out HB.out⟩
  by_cases k3 : kd = 3
  · rw [if_pos k3]
    by_cases r0 : f.f1 = 0
    · rw [if_pos r0]
      subst k3
      clear key
      by_cases a1 : ar = -1
      · subst a1
        rw [if_pos (show (-1 : Int) = -1 from rfl)]
        go_enter Tryd.func79, Tryd.ntmps79
        go_wp2_with ((with_reducible refine gate_dst (N := 3) rfl ?_); refine box_event ?hg (N := 3) ?hd (cs := #[.int .i64 3, .int .i64 (-1), .slice A nt c]) (t := 54) ?hr ?_; (case hd => rfl); (case hg => rfl); (case hr => first | (go_simp; done) | (go_simp; rfl)); intro gb3 hg w2 hbox hb; have BX3 := Aside0.mk hbox; have H0 := Aside0.mk hb; have HG3 := Aside0.mk hg; have HB := Aside0.mk (Below.refl w2.heap.size w2); clear hbox hb hg; have hx3_0 : w2.cell? ⟨gb3, 0, none⟩ = some (.int .i64 3) := (blk_cell BX3.out 0).trans rfl; have hx3_1 : w2.cell? ⟨gb3, 1, none⟩ = some (.int .i64 (-1)) := (blk_cell BX3.out 1).trans rfl; have hx3_2 : w2.cell? ⟨gb3, 2, none⟩ = some (.slice A nt c) := (blk_cell BX3.out 2).trans rfl; have hc2 := (blk_cell (HL.out.below H0.out).blk 2).trans (show _ = some (.int .i64 f.f1) from rfl); rw [r0] at hc2)
        go_ret
        exact ⟨rfl, H0.out⟩
      · rw [if_neg a1]
        have d1 : (ar == -1) = false := beq_eq_false_iff_ne.mpr a1
        have d2 : (ar != -1) = true := bne_iff_ne.mpr a1
        clear a1
        go_enter Tryd.func79, Tryd.ntmps79
        go_wp2_with ((with_reducible refine gate_dst (N := 3) rfl ?_); refine box_event ?hg (N := 3) ?hd (cs := #[.int .i64 3, .int .i64 ar, .slice A nt c]) (t := 54) ?hr ?_; (case hd => rfl); (case hg => rfl); (case hr => first | (go_simp; done) | (go_simp; rfl)); intro gb3 hg w2 hbox hb; have BX3 := Aside0.mk hbox; have H0 := Aside0.mk hb; have HG3 := Aside0.mk hg; have HB := Aside0.mk (Below.refl w2.heap.size w2); clear hbox hb hg; have hx3_0 : w2.cell? ⟨gb3, 0, none⟩ = some (.int .i64 3) := (blk_cell BX3.out 0).trans rfl; have hx3_1 : w2.cell? ⟨gb3, 1, none⟩ = some (.int .i64 ar) := (blk_cell BX3.out 1).trans rfl; have hx3_2 : w2.cell? ⟨gb3, 2, none⟩ = some (.slice A nt c) := (blk_cell BX3.out 2).trans rfl; have hc2 := (blk_cell (HL.out.below H0.out).blk 2).trans (show _ = some (.int .i64 f.f1) from rfl); rw [r0] at hc2)
        go_ret
        exact ⟨rfl, H0.out⟩
    · rw [if_neg r0]
      exact key f.f1 _ _ rfl rfl (.inl ⟨k3, r0, rfl⟩)
  · rw [if_neg k3]
    exact key 2 _ _ rfl rfl (.inr ⟨k3, rfl⟩)
end Go.Proofs.YtckebppacealeaaDoor.Lk
