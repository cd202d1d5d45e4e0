/- What is amiss with an instruction, as the checker tells it. Conditions: the looker stands. -/
import Derived.Test.YtckebppacealeaaDoorLf
namespace Go.Proofs.YtckebppacealeaaDoor.Lk
open Go.RowKit Go.Proofs.YtckebppacealeaaDoorW.PrintWords Go.Proofs.YtckebppacealeaaDoorW.PrintLast Go.Proofs.YtckebppacealeaaDoorW.PrintMore Go.Proofs.YtckebppacealeaaDoorW.PrintWords.Kd Go.Proofs.YtckebppacealeaaDoor.PCodeUnlike
attribute [local go_sem] max2_int min2_int max_two min_two max_three min_three max_four min_four
set_option linter.unusedVariables false
set_option linter.unusedSimpArgs false
variable {w w1 : World} {bl : Nat} {m : List Fn} {f : Fn} {Am : Option Addr} {cm : Nat} {Ar : Option Addr} {cr : Nat} {Ab : Option Addr} {cb : Nat}
def oddB (t : Int) (x : In) : Bool := (t == 0 && x.f1 != -1) || (x.f0 != 1 && x.f3 != 0) || (x.f0 != 17 && x.f4 != 0)
def instrE (m : List Fn) (f : Fn) (x : In) : Option Int :=
  if (arityV m x).2.2 = none then
    (if (x.f2.length : Int) = (arityV m x).1 then
      (if hasB f x.f2 = true then (if (arityV m x).2.1 = 0 ∨ hasB f [x.f1] = true then (if oddB (arityV m x).2.1 x = false ∧ fitsB m f x = true then none else some 3) else some 4) else some 4)
    else some 6)
  else (arityV m x).2.2
set_option maxHeartbeats 16000000 in
set_option maxRecDepth 100000 in
theorem instr_any (h : Lk w bl m f Am cm Ar cr Ab cb) (x : In) (A : Option Addr) (c : Nat) (hr : Kd.C (Kd.int .i64) w A x.f2.length x.f2) :
    Calls Tryd.prog 78 #[.pointer (some ⟨bl, 0, none⟩), .agg #[.int .i64 x.f0, .int .i64 x.f1, .slice A x.f2.length c, .int .i64 x.f3, .int .i64 x.f4]] w fun e w' => e = .returned (errW (instrE m f x)) ∧ Below w.heap.size w w' := by
  have HL := Aside0.mk h
  have HR := Aside0.mk hr
  clear h hr
  unfold instrE
  have key : ∀ n t er, arityV m x = (n, t, er) → ∀ r, (if er = none then (if (x.f2.length : Int) = n then (if hasB f x.f2 = true then (if t = 0 ∨ hasB f [x.f1] = true then (if oddB t x = false ∧ fitsB m f x = true then none else some 3) else some 4) else some 4) else some 6) else er) = r →
      Calls Tryd.prog 78 #[.pointer (some ⟨bl, 0, none⟩), .agg #[.int .i64 x.f0, .int .i64 x.f1, .slice A x.f2.length c, .int .i64 x.f3, .int .i64 x.f4]] w fun e w' => e = .returned (errW r) ∧ Below w.heap.size w w' := by
    intro n t er ha r hr
    have HA := Aside0.mk ha
    have HV := Aside0.mk hr
    clear ha hr
    obtain ⟨op, dst, xs, imm, fn⟩ := x
    dsimp only at *
    go_enter Tryd.func78, Tryd.ntmps78
    go_wp2_with ((with_reducible refine gate_dst (N := 3) rfl ?_); refine box_event ?hg (N := 3) ?hd (cs := #[.int .i64 op, .int .i64 dst, .slice A xs.length c, .int .i64 imm, .int .i64 fn]) (t := 58) ?hr ?_; (case hd => rfl); (case hg => rfl); (case hr => first | (go_simp; done) | (go_simp; rfl)); intro gb3 hg w2 hbox hb; have BX3 := Aside0.mk hbox; have H0 := Aside0.mk hb; have HG3 := Aside0.mk hg; have HB := Aside0.mk (Below.refl w2.heap.size w2); clear hbox hb hg; have hx3_0 : w2.cell? ⟨gb3, 0, none⟩ = some (.int .i64 op) := (blk_cell BX3.out 0).trans rfl; have hx3_1 : w2.cell? ⟨gb3, 1, none⟩ = some (.int .i64 dst) := (blk_cell BX3.out 1).trans rfl; have hx3_2 : w2.cell? ⟨gb3, 2, none⟩ = some (.slice A xs.length c) := (blk_cell BX3.out 2).trans rfl; have hx3_3 : w2.cell? ⟨gb3, 3, none⟩ = some (.int .i64 imm) := (blk_cell BX3.out 3).trans rfl; have hx3_4 : w2.cell? ⟨gb3, 4, none⟩ = some (.int .i64 fn) := (blk_cell BX3.out 4).trans rfl)
    refine (arity_any (HL.out.below H0.out) ⟨op, dst, xs, imm, fn⟩ A c).mono ?_
    rw [HA.out]
    dsimp only
    rintro e w3 ⟨rfl, hb⟩
    have HB := Aside0.mk hb
    clear hb
    cases er with
    | some q =>
      rw [errW_some]
      have hv := HV.out
      rw [if_neg (by simp)] at hv
      subst hv
      go_wp2
      go_ret
      exact ⟨rfl, below_step H0.out HB.out⟩
    | none =>
      rw [errW_none]
      have hv := HV.out
      rw [if_pos (show (none : Option Int) = none from rfl)] at hv
      have hz2 := bx_cell BX3.out HB.out 2 (v := .slice A xs.length c) rfl
      by_cases c1 : (xs.length : Int) = n
      rotate_left
      · rw [if_neg c1] at hv
        subst hv
        have d1 : ((xs.length : Int) == n) = false := beq_eq_false_iff_ne.mpr c1
        have d2 : ((xs.length : Int) != n) = true := bne_iff_ne.mpr c1
        clear c1
        go_wp2
        go_ret
        exact ⟨rfl, below_step H0.out HB.out⟩
      rw [if_pos c1] at hv
      have HN := Aside0.mk c1
      subst c1
      cases h1 : hasB f xs with
      | false =>
        have hno : ¬ hasB f xs = true := by rw [h1]; simp
        rw [if_neg hno] at hv
        clear hno
        subst hv
        have H1 := Aside0.mk h1
        clear h1
        go_wp2_with (fail)
        refine (has_any ((HL.out.below H0.out).below HB.out) xs _ _ (Kd.C_below (Kd.C_below HR.out H0.out) HB.out)).mono ?_
        rw [H1.out]
        rintro e w4 ⟨rfl, hb⟩
        have HB := Aside0.mk (below_step HB.out hb)
        clear hb
        go_wp2
        go_ret
        exact ⟨rfl, below_step H0.out HB.out⟩
      | true =>
        rw [if_pos h1] at hv
        replace HV := Aside0.mk hv
        have H1 := Aside0.mk h1
        clear h1 hv
        go_wp2_with (fail)
        refine (has_any ((HL.out.below H0.out).below HB.out) xs _ _ (Kd.C_below (Kd.C_below HR.out H0.out) HB.out)).mono ?_
        rw [H1.out]
        rintro e w4 ⟨rfl, hb⟩
        have HB := Aside0.mk (below_step HB.out hb)
        clear hb hz2
        -- the destination
        have key2 : (t = 0 ∨ hasB f [dst] = true) ∨ (t ≠ 0 ∧ hasB f [dst] = false) := by
          by_cases e0 : t = 0
          · exact .inl (.inl e0)
          · cases e1 : hasB f [dst]
            · exact .inr ⟨e0, rfl⟩
            · exact .inl (.inr rfl)
        rcases key2 with hD | ⟨e0, e1⟩
        rotate_left
        · have hv := HV.out
          have hno : ¬ (t = 0 ∨ hasB f [dst] = true) := by
            rintro (h | h)
            · exact e0 h
            · rw [e1] at h
              exact absurd h (by simp)
          rw [if_neg hno] at hv
          subst hv
          have d0 : (t == 0) = false := beq_eq_false_iff_ne.mpr e0
          have E1 := Aside0.mk e1
          clear e0 e1 hno
          have hx3_1 := bx_cell BX3.out HB.out 1 (v := .int .i64 dst) rfl
          go_wp2_with (fail)
          refine (has_any ((HL.out.below H0.out).below (below_alloc HB.out _)) [dst] _ _ (row_new _ [dst] (by simp) _)).mono ?_
          rw [E1.out]
          rintro e w5 ⟨rfl, hb⟩
          have HB5 := Aside0.mk (below_step (below_alloc HB.out _) hb)
          clear hb
          go_wp2
          go_ret
          exact ⟨rfl, below_step H0.out HB5.out⟩
        have hv := HV.out
        rw [if_pos hD] at hv
        replace HV := Aside0.mk hv
        have HFIT := Aside0.mk (show Fit m f ⟨op, dst, xs, imm, fn⟩ from ⟨H1.out, by rw [HA.out]; exact fun h => hD.resolve_left h, by rw [HA.out], by rw [HA.out]⟩)
        have HD := Aside0.mk hD
        clear hv hD
        by_cases e0 : t = 0
        rotate_left
        · have d0 : (t == 0) = false := beq_eq_false_iff_ne.mpr e0
          have hx3_1 := bx_cell BX3.out HB.out 1 (v := .int .i64 dst) rfl
          have hd := HD.out.resolve_left e0
          clear e0
          go_wp2_with (fail)
          refine (has_any ((HL.out.below H0.out).below (below_alloc HB.out _)) [dst] _ _ (row_new _ [dst] (by simp) _)).mono ?_
          rw [hd]
          rintro e w5 ⟨rfl, hb⟩
          have HB := Aside0.mk (below_step (below_alloc HB.out _) hb)
          clear hb hd hx3_1
          go_upto_region 9 with (fail)
          have hx3_0 := bx_cell BX3.out HB.out 0 (v := .int .i64 op) rfl
          have hx3_1 := bx_cell BX3.out HB.out 1 (v := .int .i64 dst) rfl
          have hx3_2 := bx_cell BX3.out HB.out 2 (v := .slice A xs.length c) rfl
          have hx3_3 := bx_cell BX3.out HB.out 3 (v := .int .i64 imm) rfl
          have hx3_4 := bx_cell BX3.out HB.out 4 (v := .int .i64 fn) rfl
          have hcon := fits_any ((HL.out.below H0.out).below HB.out) ⟨op, dst, xs, imm, fn⟩ A c (Kd.C_below (Kd.C_below HR.out H0.out) HB.out) HFIT.out
          dsimp only at hcon
          cases d1 : (op != 1) with
          | false =>
            cases d3 : (op != 17) with
            | false =>
              have HO := Aside0.mk (show oddB t ⟨op, dst, xs, imm, fn⟩ = false by simp [oddB, d0, d1, d3])
              have hv := HV.out
              cases hq : fitsB m f ⟨op, dst, xs, imm, fn⟩ with
              | true =>
                rw [hq] at hcon
                rw [if_pos (And.intro HO.out hq)] at hv
                subst hv
                clear hq
                go_wp2_with (fail)
                refine hcon.mono ?_
                rintro e w6 ⟨rfl, hb⟩
                have HB6 := Aside0.mk (below_step HB.out hb)
                clear hb hcon
                go_wp2
                go_ret
                exact ⟨rfl, below_step H0.out HB6.out⟩
              | false =>
                rw [hq] at hcon
                rw [if_neg (fun h => Bool.false_ne_true (hq.symm.trans h.2))] at hv
                subst hv
                clear hq
                go_wp2_with (fail)
                refine hcon.mono ?_
                rintro e w6 ⟨rfl, hb⟩
                have HB6 := Aside0.mk (below_step HB.out hb)
                clear hb hcon
                go_wp2
                go_ret
                exact ⟨rfl, below_step H0.out HB6.out⟩
            | true =>
              cases d4 : (fn != 0) with
              | false =>
                have HO := Aside0.mk (show oddB t ⟨op, dst, xs, imm, fn⟩ = false by simp [oddB, d0, d1, d3, d4])
                have hv := HV.out
                cases hq : fitsB m f ⟨op, dst, xs, imm, fn⟩ with
                | true =>
                  rw [hq] at hcon
                  rw [if_pos (And.intro HO.out hq)] at hv
                  subst hv
                  clear hq
                  go_wp2_with (fail)
                  refine hcon.mono ?_
                  rintro e w6 ⟨rfl, hb⟩
                  have HB6 := Aside0.mk (below_step HB.out hb)
                  clear hb hcon
                  go_wp2
                  go_ret
                  exact ⟨rfl, below_step H0.out HB6.out⟩
                | false =>
                  rw [hq] at hcon
                  rw [if_neg (fun h => Bool.false_ne_true (hq.symm.trans h.2))] at hv
                  subst hv
                  clear hq
                  go_wp2_with (fail)
                  refine hcon.mono ?_
                  rintro e w6 ⟨rfl, hb⟩
                  have HB6 := Aside0.mk (below_step HB.out hb)
                  clear hb hcon
                  go_wp2
                  go_ret
                  exact ⟨rfl, below_step H0.out HB6.out⟩
              | true =>
                have HO := Aside0.mk (show oddB t ⟨op, dst, xs, imm, fn⟩ = true by simp [oddB, d0, d1, d3, d4])
                have hv := HV.out
                rw [if_neg (fun h => Bool.false_ne_true (h.1.symm.trans HO.out))] at hv
                subst hv
                clear hcon
                go_wp2
                go_ret
                exact ⟨rfl, below_step H0.out HB.out⟩
          | true =>
            cases d2 : (imm != 0) with
            | false =>
              cases d3 : (op != 17) with
              | false =>
                have HO := Aside0.mk (show oddB t ⟨op, dst, xs, imm, fn⟩ = false by simp [oddB, d0, d1, d2, d3])
                have hv := HV.out
                cases hq : fitsB m f ⟨op, dst, xs, imm, fn⟩ with
                | true =>
                  rw [hq] at hcon
                  rw [if_pos (And.intro HO.out hq)] at hv
                  subst hv
                  clear hq
                  go_wp2_with (fail)
                  refine hcon.mono ?_
                  rintro e w6 ⟨rfl, hb⟩
                  have HB6 := Aside0.mk (below_step HB.out hb)
                  clear hb hcon
                  go_wp2
                  go_ret
                  exact ⟨rfl, below_step H0.out HB6.out⟩
                | false =>
                  rw [hq] at hcon
                  rw [if_neg (fun h => Bool.false_ne_true (hq.symm.trans h.2))] at hv
                  subst hv
                  clear hq
                  go_wp2_with (fail)
                  refine hcon.mono ?_
                  rintro e w6 ⟨rfl, hb⟩
                  have HB6 := Aside0.mk (below_step HB.out hb)
                  clear hb hcon
                  go_wp2
                  go_ret
                  exact ⟨rfl, below_step H0.out HB6.out⟩
              | true =>
                cases d4 : (fn != 0) with
                | false =>
                  have HO := Aside0.mk (show oddB t ⟨op, dst, xs, imm, fn⟩ = false by simp [oddB, d0, d1, d2, d3, d4])
                  have hv := HV.out
                  cases hq : fitsB m f ⟨op, dst, xs, imm, fn⟩ with
                  | true =>
                    rw [hq] at hcon
                    rw [if_pos (And.intro HO.out hq)] at hv
                    subst hv
                    clear hq
                    go_wp2_with (fail)
                    refine hcon.mono ?_
                    rintro e w6 ⟨rfl, hb⟩
                    have HB6 := Aside0.mk (below_step HB.out hb)
                    clear hb hcon
                    go_wp2
                    go_ret
                    exact ⟨rfl, below_step H0.out HB6.out⟩
                  | false =>
                    rw [hq] at hcon
                    rw [if_neg (fun h => Bool.false_ne_true (hq.symm.trans h.2))] at hv
                    subst hv
                    clear hq
                    go_wp2_with (fail)
                    refine hcon.mono ?_
                    rintro e w6 ⟨rfl, hb⟩
                    have HB6 := Aside0.mk (below_step HB.out hb)
                    clear hb hcon
                    go_wp2
                    go_ret
                    exact ⟨rfl, below_step H0.out HB6.out⟩
                | true =>
                  have HO := Aside0.mk (show oddB t ⟨op, dst, xs, imm, fn⟩ = true by simp [oddB, d0, d1, d2, d3, d4])
                  have hv := HV.out
                  rw [if_neg (fun h => Bool.false_ne_true (h.1.symm.trans HO.out))] at hv
                  subst hv
                  clear hcon
                  go_wp2
                  go_ret
                  exact ⟨rfl, below_step H0.out HB.out⟩
            | true =>
              have HO := Aside0.mk (show oddB t ⟨op, dst, xs, imm, fn⟩ = true by simp [oddB, d0, d1, d2])
              have hv := HV.out
              rw [if_neg (fun h => Bool.false_ne_true (h.1.symm.trans HO.out))] at hv
              subst hv
              clear hcon
              go_wp2
              go_ret
              exact ⟨rfl, below_step H0.out HB.out⟩
        · have d0 : (t == 0) = true := beq_iff_eq.mpr e0
          clear e0
          go_upto_region 9 with (fail)
          have hx3_0 := bx_cell BX3.out HB.out 0 (v := .int .i64 op) rfl
          have hx3_1 := bx_cell BX3.out HB.out 1 (v := .int .i64 dst) rfl
          have hx3_2 := bx_cell BX3.out HB.out 2 (v := .slice A xs.length c) rfl
          have hx3_3 := bx_cell BX3.out HB.out 3 (v := .int .i64 imm) rfl
          have hx3_4 := bx_cell BX3.out HB.out 4 (v := .int .i64 fn) rfl
          have hcon := fits_any ((HL.out.below H0.out).below HB.out) ⟨op, dst, xs, imm, fn⟩ A c (Kd.C_below (Kd.C_below HR.out H0.out) HB.out) HFIT.out
          dsimp only at hcon
          cases d5 : (dst != -1) with
          | true =>
            have HO := Aside0.mk (show oddB t ⟨op, dst, xs, imm, fn⟩ = true by simp [oddB, d0, d5])
            have hv := HV.out
            rw [if_neg (fun h => Bool.false_ne_true (h.1.symm.trans HO.out))] at hv
            subst hv
            clear hcon
            go_wp2
            go_ret
            exact ⟨rfl, below_step H0.out HB.out⟩
          | false =>
            cases d1 : (op != 1) with
            | false =>
              cases d3 : (op != 17) with
              | false =>
                have HO := Aside0.mk (show oddB t ⟨op, dst, xs, imm, fn⟩ = false by simp [oddB, d0, d5, d1, d3])
                have hv := HV.out
                cases hq : fitsB m f ⟨op, dst, xs, imm, fn⟩ with
                | true =>
                  rw [hq] at hcon
                  rw [if_pos (And.intro HO.out hq)] at hv
                  subst hv
                  clear hq
                  go_wp2_with (fail)
                  refine hcon.mono ?_
                  rintro e w6 ⟨rfl, hb⟩
                  have HB6 := Aside0.mk (below_step HB.out hb)
                  clear hb hcon
                  go_wp2
                  go_ret
                  exact ⟨rfl, below_step H0.out HB6.out⟩
                | false =>
                  rw [hq] at hcon
                  rw [if_neg (fun h => Bool.false_ne_true (hq.symm.trans h.2))] at hv
                  subst hv
                  clear hq
                  go_wp2_with (fail)
                  refine hcon.mono ?_
                  rintro e w6 ⟨rfl, hb⟩
                  have HB6 := Aside0.mk (below_step HB.out hb)
                  clear hb hcon
                  go_wp2
                  go_ret
                  exact ⟨rfl, below_step H0.out HB6.out⟩
              | true =>
                cases d4 : (fn != 0) with
                | false =>
                  have HO := Aside0.mk (show oddB t ⟨op, dst, xs, imm, fn⟩ = false by simp [oddB, d0, d5, d1, d3, d4])
                  have hv := HV.out
                  cases hq : fitsB m f ⟨op, dst, xs, imm, fn⟩ with
                  | true =>
                    rw [hq] at hcon
                    rw [if_pos (And.intro HO.out hq)] at hv
                    subst hv
                    clear hq
                    go_wp2_with (fail)
                    refine hcon.mono ?_
                    rintro e w6 ⟨rfl, hb⟩
                    have HB6 := Aside0.mk (below_step HB.out hb)
                    clear hb hcon
                    go_wp2
                    go_ret
                    exact ⟨rfl, below_step H0.out HB6.out⟩
                  | false =>
                    rw [hq] at hcon
                    rw [if_neg (fun h => Bool.false_ne_true (hq.symm.trans h.2))] at hv
                    subst hv
                    clear hq
                    go_wp2_with (fail)
                    refine hcon.mono ?_
                    rintro e w6 ⟨rfl, hb⟩
                    have HB6 := Aside0.mk (below_step HB.out hb)
                    clear hb hcon
                    go_wp2
                    go_ret
                    exact ⟨rfl, below_step H0.out HB6.out⟩
                | true =>
                  have HO := Aside0.mk (show oddB t ⟨op, dst, xs, imm, fn⟩ = true by simp [oddB, d0, d5, d1, d3, d4])
                  have hv := HV.out
                  rw [if_neg (fun h => Bool.false_ne_true (h.1.symm.trans HO.out))] at hv
                  subst hv
                  clear hcon
                  go_wp2
                  go_ret
                  exact ⟨rfl, below_step H0.out HB.out⟩
            | true =>
              cases d2 : (imm != 0) with
              | false =>
                cases d3 : (op != 17) with
                | false =>
                  have HO := Aside0.mk (show oddB t ⟨op, dst, xs, imm, fn⟩ = false by simp [oddB, d0, d5, d1, d2, d3])
                  have hv := HV.out
                  cases hq : fitsB m f ⟨op, dst, xs, imm, fn⟩ with
                  | true =>
                    rw [hq] at hcon
                    rw [if_pos (And.intro HO.out hq)] at hv
                    subst hv
                    clear hq
                    go_wp2_with (fail)
                    refine hcon.mono ?_
                    rintro e w6 ⟨rfl, hb⟩
                    have HB6 := Aside0.mk (below_step HB.out hb)
                    clear hb hcon
                    go_wp2
                    go_ret
                    exact ⟨rfl, below_step H0.out HB6.out⟩
                  | false =>
                    rw [hq] at hcon
                    rw [if_neg (fun h => Bool.false_ne_true (hq.symm.trans h.2))] at hv
                    subst hv
                    clear hq
                    go_wp2_with (fail)
                    refine hcon.mono ?_
                    rintro e w6 ⟨rfl, hb⟩
                    have HB6 := Aside0.mk (below_step HB.out hb)
                    clear hb hcon
                    go_wp2
                    go_ret
                    exact ⟨rfl, below_step H0.out HB6.out⟩
                | true =>
                  cases d4 : (fn != 0) with
                  | false =>
                    have HO := Aside0.mk (show oddB t ⟨op, dst, xs, imm, fn⟩ = false by simp [oddB, d0, d5, d1, d2, d3, d4])
                    have hv := HV.out
                    cases hq : fitsB m f ⟨op, dst, xs, imm, fn⟩ with
                    | true =>
                      rw [hq] at hcon
                      rw [if_pos (And.intro HO.out hq)] at hv
                      subst hv
                      clear hq
                      go_wp2_with (fail)
                      refine hcon.mono ?_
                      rintro e w6 ⟨rfl, hb⟩
                      have HB6 := Aside0.mk (below_step HB.out hb)
                      clear hb hcon
                      go_wp2
                      go_ret
                      exact ⟨rfl, below_step H0.out HB6.out⟩
                    | false =>
                      rw [hq] at hcon
                      rw [if_neg (fun h => Bool.false_ne_true (hq.symm.trans h.2))] at hv
                      subst hv
                      clear hq
                      go_wp2_with (fail)
                      refine hcon.mono ?_
                      rintro e w6 ⟨rfl, hb⟩
                      have HB6 := Aside0.mk (below_step HB.out hb)
                      clear hb hcon
                      go_wp2
                      go_ret
                      exact ⟨rfl, below_step H0.out HB6.out⟩
                  | true =>
                    have HO := Aside0.mk (show oddB t ⟨op, dst, xs, imm, fn⟩ = true by simp [oddB, d0, d5, d1, d2, d3, d4])
                    have hv := HV.out
                    rw [if_neg (fun h => Bool.false_ne_true (h.1.symm.trans HO.out))] at hv
                    subst hv
                    clear hcon
                    go_wp2
                    go_ret
                    exact ⟨rfl, below_step H0.out HB.out⟩
              | true =>
                have HO := Aside0.mk (show oddB t ⟨op, dst, xs, imm, fn⟩ = true by simp [oddB, d0, d5, d1, d2])
                have hv := HV.out
                rw [if_neg (fun h => Bool.false_ne_true (h.1.symm.trans HO.out))] at hv
                subst hv
                clear hcon
                go_wp2
                go_ret
                exact ⟨rfl, below_step H0.out HB.out⟩
  exact key _ _ _ rfl _ rfl
end Go.Proofs.YtckebppacealeaaDoor.Lk
