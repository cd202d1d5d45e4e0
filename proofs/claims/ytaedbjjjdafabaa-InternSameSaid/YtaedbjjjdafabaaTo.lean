/- Put, whatever comes of it, and Ranks: each handle has its value's place by content. Conditions: a table of 1 to 16 drawers. -/
import Derived.Test.YtaedbjjjdafabaaTn
import Derived.StillTailTactics
namespace Go.Proofs.Ytaedbjjjdafabaa.Tb
open Go.RowKit Go.Proofs.YtaedbjjjdafabaaW.PrintWords Go.Proofs.YtaedbjjjdafabaaW.PrintLast Go.Proofs.YtaedbjjjdafabaaW.PrintMore Go.Proofs.YtaedbjjjdafabaaW.PrintWords.Kd Go.Maps Go.Proofs.Ytaedbjjjdafabaa.PInternFull
attribute [local go_sem] max2_int min2_int max_two min_two max_three min_three max_four min_four
set_option linter.unusedVariables false
set_option linter.unusedSimpArgs false
variable {w w1 : World} {b g gt : Nat} {A : Option Addr} {n c bm m : Nat} {X : List (List (Int × Int))} {D : DataW Unit}
/-- Put, whatever comes of it. -/
theorem put_all (h : Tab w b gt A n c bm m X D) (G : Good n X D) (hbw : b ≤ w.heap.size) (x y : Int) (hw : wfV (x, y)) (h1 : 1 ≤ n) (h2 : n ≤ 16) (hmm : m < 100000) (hl : X.flatten.length < 4000) :
    Calls Try.prog 10 #[.pointer (some ⟨gt, 0, none⟩), .int .i64 x, .int .i64 y] w fun e w' => (∃ r, e = .returned r) ∧ (∃ X' D' m', Tab w' b gt A n c bm m' X' D' ∧ Good n X' D' ∧ (∀ v, v ∈ X'.flatten ↔ v ∈ X.flatten ∨ v = (x, y) ∧ mayB v = true) ∧ X'.flatten.length ≤ X.flatten.length + 1 ∧ m' ≤ m + 1) ∧ Below b w w' := by
  by_cases hm : mayB (x, y) = true
  · by_cases hh : Maps.has D (KL x y) = true
    · obtain ⟨r, hr, _, _⟩ := h.look hw.1 hw.2
      refine (put_has h x y r (by rw [may_eq, hm]) hw.1 hw.2 hh hr).mono ?_
      rintro e w' ⟨rfl, hB⟩
      refine ⟨⟨_, rfl⟩, ⟨X, D, m, h.below hB, G, fun v => ⟨.inl, fun o => o.elim id ?_⟩, Nat.le_succ _, Nat.le_succ _⟩, hB.mono hbw⟩
      rintro ⟨rfl, _⟩
      exact (G.has _ hw).1 hh
    · have hh' : Maps.has D (KL x y) = false := by simpa using hh
      have hb := row_le X (drw x y n).toNat
      refine (put_new h hbw x y (by rw [may_eq, hm]) hw.1 hw.2 hh' (by rw [G.siz]; omega) h1 h2 (by unfold maxLen; omega) (by omega)).mono ?_
      rintro e w' ⟨rfl, hB, hT⟩
      obtain ⟨G', hp⟩ := good_put G (h.map.tidy law40) x y h1 h2 (by omega) hw hm hh'
      refine ⟨⟨_, rfl⟩, ⟨_, _, _, hT, G', fun v => ?_, by rw [hp.length_eq]; simp, Nat.le_refl _⟩, hB⟩
      rw [hp.mem_iff, List.mem_cons]
      constructor
      · rintro (rfl | hv)
        · exact .inr ⟨rfl, hm⟩
        · exact .inl hv
      · rintro (hv | ⟨rfl, _⟩)
        · exact .inr hv
        · exact .inl rfl
  · have hm' : mayB (x, y) = false := by simpa using hm
    refine (put_none h x y (by rw [may_eq, hm'])).mono ?_
    rintro e w' ⟨rfl, hB⟩
    refine ⟨⟨_, rfl⟩, ⟨X, D, m, h.below hB, G, fun v => ⟨.inl, fun o => o.elim id ?_⟩, Nat.le_succ _, Nat.le_succ _⟩, hB.mono hbw⟩
    rintro ⟨rfl, e⟩
    exact absurd e hm
theorem sortL_mem {v : V2} {l : List V2} : v ∈ sortL l ↔ v ∈ l := (List.mergeSort_perm l _).mem_iff
theorem still_lookup {P : Program} {ops : Array Oper} {w : World} {Q : Act → Prop} {o : Oper} {rest : List Oper} {a : Act} (hg : o.guard = none) (m x : Operand) (t : TypeId) (c : Bool) (hop : o.op = Op.lookup t m x c) {mv xv v : Value} (hm : a.eval m = mv) (hx : a.eval x = xv)
    (hrun : (Instr.lookup t mv xv c).run P w = .ok v w) (h : wpStill P ops w Q rest (a.put o.dst v)) : wpStill P ops w Q (o :: rest) a := by
  refine wpStill_step fun K hK => ?_
  rw [if_pos (by simp [Region.wanted, hg])]
  unfold Oper.still
  simp [execOp, hop, hm, hx, hrun, Result.andThen, Oper.stillUpon]
  exact hK _ h
/-- A value's handle. -/
def hof (D : DataW Unit) (v : V2) : Int := match D.atKey (KL v.1 v.2) (.lit (.int .i64 0)) with
  | .lit (.int _ r) => r
  | _ => 0
/-- The ranks of the first k values of Y. -/
def rk (D : DataW Unit) (Y : List V2) : Nat → DataW Unit
  | 0 => .map []
  | k + 1 => (rk D Y k).put (.int .i64 (hof D (Y.getD k (0, 0)))) (.lit (.int .i64 (k : Int)))
theorem Tab.get (h : Tab w b gt A n c bm m X D) {x y : Int} (hx : (Lit.int .i64 x).wf = true) (hy : (Lit.int .i64 y).wf = true) (k : Nat) :
    (Instr.lookup 47 (.map (some bm)) (.agg #[.int .i64 x, .int .i64 y]) false).run Try.prog (w.drewN k) = .ok (.int .i64 (hof D (x, y))) (w.drewN k) ∧ (Lit.int .i64 (hof D (x, y))).wf = true := by
  obtain ⟨r, hrun, hat, hw⟩ := (h.drewN k).map.lookup_int law40 Try.underlying47 Try.underlying3 (zero3 _) (keyOf40 hx hy)
  have e : hof D (x, y) = r := by unfold hof; rw [hat]
  rw [e]
  exact ⟨hrun, hw⟩
theorem law3 : Keyed Try.prog 3 := int_keyed Try.underlying3
theorem Own.grown {v : Value} {l : List V2} (h : Own w b v l) {row : Option Nat} (hg : w.grownBy w1 row) (hok : ∀ k, b ≤ k → some k ≠ row) : Own w1 b v l := R_step h (fun k ho hk => hg.block k hk (hok k ho))
/-- The k-th value of a row of the call's own. -/
theorem own_at {l : List V2} (h : Own w b (.slice A n c) l) (k : Nat) (hk : k < l.length) : ∃ g, A = some ⟨g, 0, none⟩ ∧ w.cell? ⟨g, k * 2, none⟩ = some (.int .i64 (l.getD k (0, 0)).1) ∧ w.cell? ⟨g, k * 2 + 1, none⟩ = some (.int .i64 (l.getD k (0, 0)).2) := by
  rcases own_cases h with ⟨_, rfl⟩ | ⟨g, cap, cur, e, _, hh, _, _, _, hc⟩
  · simp at hk
  · injection e with e1 e2 e3
    exact ⟨g, e1, (blk_cell hh _).trans (hc k hk).1, (blk_cell hh _).trans (hc k hk).2⟩
set_option maxHeartbeats 4000000 in
set_option maxRecDepth 100000 in
theorem ranks_any (h : Tab w b gt A n c bm m X D) (G : Good n X D) (hl : X.flatten.length ≤ 1000000) (hn : n ≤ 16) :
    Calls Try.prog 14 #[.pointer (some ⟨gt, 0, none⟩)] w fun e w' => (∃ bo, e = .returned (.map (some bo)) ∧ w'.ownsMap Try.prog 3 (plainElem Try.prog 3) bo X.flatten.length (rk D (sortL X.flatten) X.flatten.length) ∧ w.heap.size ≤ bo) ∧ Below w.heap.size w w' := by
  have HB := Aside0.mk (Below.refl w.heap.size w)
  obtain ⟨Y, hY⟩ : ∃ Y, Y = sortL X.flatten := ⟨_, rfl⟩
  have hYl : Y.length = X.flatten.length := by rw [hY, sortL_len]
  have hw : ∀ k, k < Y.length → wfV (Y.getD k (0, 0)) := fun k hk => by
    rw [List.getD_eq_getElem?_getD, List.getElem?_eq_getElem hk, Option.getD_some]
    have e : ∀ v, v ∈ Y → v ∈ X.flatten := fun v hv => by rw [hY] at hv; exact sortL_mem.1 hv
    exact (G.mem _ (e _ (List.getElem_mem hk))).1
  have V13 := fun w1 (hb : Below w.heap.size w w1) => values_any (h.below hb) hl hn
  rw [← hY] at V13 ⊢
  rw [← hYl]
  rw [← hYl] at hl
  have HW := Aside0.mk hw
  have HV := Aside0.mk V13
  have HT := Aside0.mk h
  have HL := Aside0.mk hl
  have hmm := @run_makeMap Try.prog
  clear h G hl hn hY hYl hw V13
  go_enter Try.func14, Try.ntmps14
  go_wp2_with (fail)
  refine (HV.out _ (below_alloc HB.out _)).mono ?_
  rintro e w4 ⟨⟨v, rfl, hO⟩, hB⟩
  obtain ⟨A1, c1, e1⟩ := R_slice hO
  subst e1
  have HO := Aside0.mk hO
  have HB4 := Aside0.mk (below_step (below_alloc HB.out (.map #[] 0)) hB)
  have HM := Aside0.mk ((World.ownsMap_made w Try.prog 3 (plainElem (H := Unit) Try.prog 3)).kept (grown_of_below hB none) (by simp))
  have hc1 := (blk_cell (HT.out.below HB4.out).blk 1).trans (show _ = some (.map (some bm)) from rfl)
  clear hO hB
  go_wp2
  go_loopw [10] (fun i wr => ∃ k : Nat, k ≤ Y.length ∧ i = .int .i64 k ∧ Aside0 (wr.ownsMap Try.prog 3 (plainElem Try.prog 3) w.heap.size k (rk D Y k)) ∧ Aside0 (w4.grownBy wr (some w.heap.size))) (fun i _ => Y.length - (intOf i).toNat)
  case atStart => exact ⟨0, Nat.zero_le _, rfl, HM, ⟨World.grownBy.refl _ _⟩⟩
  case round =>
    obtain ⟨k, hk, rfl, HM5, HG5⟩ := hrel
    have HB5 := Aside0.mk (HB4.out.grown HG5.out HB4.out.size (fun j hj => by cases hj; exact Nat.le_refl _))
    by_cases hlt : k < Y.length
    · have HO5 := HO.out.grown HG5.out (fun j hj e => by
        rw [show (w.alloc (.map #[] 0)).heap.size = w.heap.size + 1 from by show (w.heap.push _).size = _; simp] at hj
        cases e
        omega)
      obtain ⟨g, rfl, hv0, hv1⟩ := own_at HO5 k hlt
      have hw := HW.out k hlt
      obtain ⟨y, hy⟩ : ∃ y, y = Y.getD k (0, 0) := ⟨_, rfl⟩
      rw [← hy] at hv0 hv1 hw
      have HY := Aside0.mk hy
      have HWf := Aside0.mk hw
      clear hy hw HO5 hc1
      go_wp2
      have HT6 := HT.out.below (below_alloc HB5.out (.cells #[.int .i64 y.1, .int .i64 y.2] 40))
      have HM6 := Aside0.mk (HM5.out.alloc (.cells #[.int .i64 y.1, .int .i64 y.2] 40))
      have HG6 := Aside0.mk (HG5.out.trans (World.grownBy_alloc wr (.cells #[.int .i64 y.1, .int .i64 y.2] 40) _))
      have hb6 := blk_new wr (.cells #[.int .i64 y.1, .int .i64 y.2] 40)
      obtain ⟨hrun, hwf⟩ := HT6.get HWf.out.1 HWf.out.2 1
      have HWF := Aside0.mk hwf
      have hc1 := (blk_cell HT6.blk 1).trans (show _ = some (.map (some bm)) from rfl)
      have hx0 := (blk_cell hb6 0).trans (show _ = some (.int .i64 y.1) from rfl)
      have hx1 := (blk_cell hb6 1).trans (show _ = some (.int .i64 y.2) from rfl)
      clear HT6 hb6 hwf hv0 hv1
      generalize wr.alloc (.cells #[.int .i64 y.1, .int .i64 y.2] 40) = w6 at HM6 HG6 hrun hc1 hx0 hx1 ⊢
      change Sem.run Try.prog _ { w6 with drawn := w6.drawn + 1 } = Result.ok _ { w6 with drawn := w6.drawn + 1 } at hrun
      have HR := Aside0.mk hrun
      clear hrun
      refine wp_region_still_tail 8 (by kernel_rfl) (by kernel_rfl) ?_
      simp only [List.take_succ_cons, List.take_zero, List.drop_succ_cons, List.drop_zero]
      repeat still_step
      refine still_lookup rfl _ _ _ _ rfl rfl rfl HR.out ?_
      simp only [Act.put, List.setIfInBounds_toArray, List.set_cons_zero, List.set_cons_succ]
      repeat still_step
      refine wpStill_nil ?_
      change wpList _ _ _ _ _ w6.drew
      have HM7 := Aside0.mk (show w6.drew.ownsMap Try.prog 3 (plainElem Try.prog 3) w.heap.size k (rk D Y k) from HM6.out)
      have HG7 := Aside0.mk (HG6.out.trans (show w6.grownBy w6.drew (some w.heap.size) from ⟨rfl, rfl, rfl, Nat.le_refl _, fun _ _ _ => rfl⟩))
      clear hc1 hx0 hx1 HM6 HG6 HR
      have hl := HL.out
      have HKW := Aside0.mk (i64_wf (a := (k : Int)) (by omega) (by omega))
      clear hl
      generalize w6.drew = w7 at HM7 HG7 ⊢
      refine wpList_mapUpdate_own _ rfl _ _ _ 41 rfl 3 3 law3 Try.underlying41 (plainElem Try.prog 3) w.heap.size k (rk D Y k) rfl HM7.out (by have := HL.out; unfold maxLen; omega) (.int .i64 (hof D (y.1, y.2))) _ (.int .i64 (hof D (y.1, y.2))) rfl rfl (keyOf_int_mk Try.underlying3 HWF.out) (.lit (.int .i64 (k : Int))) [] (plainElem_int Try.underlying3 HKW.out) ?_
      intro w8 hown hg
      have HM8 : Aside0 (w8.ownsMap Try.prog 3 (plainElem Try.prog 3) w.heap.size (k + 1) (rk D Y (k + 1))) := ⟨by rw [rk, ← HY.out]; exact hown⟩
      have HG8 := Aside0.mk (HG7.out.trans hg)
      clear hown hg HM7 HG7
      have hl := HL.out
      go_wp2
      go_roundw
      case rel => exact ⟨k + 1, by omega, by go_num, HM8, HG8⟩
      case measure => simp [intOf]; omega
    · obtain rfl : k = Y.length := by omega
      go_wp2
      go_ret
      exact ⟨⟨w.heap.size, rfl, HM5.out, Nat.le_refl _⟩, HB5.out⟩
end Go.Proofs.Ytaedbjjjdafabaa.Tb
