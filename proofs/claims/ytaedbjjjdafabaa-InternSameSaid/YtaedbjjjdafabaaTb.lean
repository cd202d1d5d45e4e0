/- What a table of the program is in memory (Tab), and what Put gives for a value that may not be, and for one that is there. Conditions: the table stands at its block. -/
import Derived.Test.YtaedbjjjdafabaaTa
namespace Go.Proofs.Ytaedbjjjdafabaa.Tb
open Go.RowKit Go.Proofs.YtaedbjjjdafabaaW.PrintWords Go.Proofs.YtaedbjjjdafabaaW.PrintLast Go.Proofs.YtaedbjjjdafabaaW.PrintMore Go.Proofs.YtaedbjjjdafabaaW.PrintWords.Kd Go.Maps Go.Proofs.Ytaedbjjjdafabaa.PInternFull
attribute [local go_sem] max2_int min2_int max_two min_two max_three min_three max_four min_four
set_option linter.unusedVariables false
set_option linter.unusedSimpArgs false
def kV : Kd (Int × Int) := Kd.pair (Kd.int .i64) (Kd.int .i64)
/-- The table at block gt: its drawers X (row A), its map (block bm) that reads as D. -/
structure Tab (w : World) (b gt : Nat) (A : Option Addr) (n c bm m : Nat) (X : List (List (Int × Int))) (D : DataW Unit) : Prop where
  blk : w.heap[gt]? = some (.cells #[.slice A n c, .map (some bm)] 49 (0, 0))
  rows : Kd.S (Kd.slice 40 kV) 36 w b (fun _ => True) (.slice A n c) X
  map : w.ownsMap Try.prog 40 (plainElem Try.prog 3) bm m D
  ge : b ≤ gt
  gem : b ≤ bm
variable {w w1 : World} {b gt : Nat} {A : Option Addr} {n c bm m : Nat} {X : List (List (Int × Int))} {D : DataW Unit}
theorem Tab.below (h : Tab w b gt A n c bm m X D) (hb : Below w.heap.size w w1) : Tab w1 b gt A n c bm m X D :=
  ⟨blk_below h.blk hb, S_below h.rows hb, h.map.kept (grown_of_below hb none) (by simp), h.ge, h.gem⟩
theorem Tab.ne (h : Tab w b gt A n c bm m X D) : gt ≠ bm := by
  rintro rfl
  obtain ⟨es, cl, hb, _⟩ := h.map
  rw [h.blk] at hb
  cases hb
set_option maxHeartbeats 4000000 in
set_option maxRecDepth 100000 in
theorem put_none (h : Tab w b gt A n c bm m X D) (x y : Int) (hm : intern_may.f x y = some false) :
    Calls Try.prog 10 #[.pointer (some ⟨gt, 0, none⟩), .int .i64 x, .int .i64 y] w fun e w' => e = .returned (.tuple #[.int .i64 0, .iface 31 (.int .i64 1)]) ∧ Below w.heap.size w w' := by
  have HB := Aside0.mk (Below.refl w.heap.size w)
  have HM := Aside0.mk hm
  clear hm
  go_enter Try.func10, Try.ntmps10
  go_wp2_with (go_at_call 16; refine (intern_may.calls x y false _ HM.out).mono ?_; rintro e w3 ⟨rfl, hB⟩; have HB2 := Aside0.mk hB; clear hB)
  go_ret2
  exact ⟨rfl, below_step (below_alloc HB.out _) HB2.out⟩
theorem quiet_lookup {P : Program} {ops : Array Oper} {C : World → Prop} {Q : Act → Prop} {o : Oper} {rest : List Oper} {a : Act} (hg : o.guard = none) (m x : Operand) (t : TypeId) (c : Bool) (hop : o.op = Op.lookup t m x c) {mv xv v : Value} (hm : a.eval m = mv) (hx : a.eval x = xv)
    (hrun : ∀ w, C w → (Instr.lookup t mv xv c).run P w = .ok v w) (h : wpQuiet P ops C Q rest (a.put o.dst v)) : wpQuiet P ops C Q (o :: rest) a := by
  refine wpQuiet_step fun K hK => ?_
  rw [if_pos (by simp [Region.wanted, hg])]
  refine ⟨v, fun w hw => ?_, hK _ h⟩
  unfold Oper.quietAt
  simp [execOp, hop, hm, hx, hrun w hw, Result.andThen, Oper.quietUpon]
theorem zero3 (w : World) : (zeroValue 3).run Try.prog w = .ok (.int .i64 0) w := by kernel_rfl
theorem Tab.drewN (h : Tab w b gt A n c bm m X D) (k : Nat) : Tab (w.drewN k) b gt A n c bm m X D := h.below (pw_below_drewN (Below.refl _ _) k)
theorem Tab.look (h : Tab w b gt A n c bm m X D) {x y : Int} (hx : (Lit.int .i64 x).wf = true) (hy : (Lit.int .i64 y).wf = true) : ∃ r, D.atKey (KL x y) (.lit (.int .i64 0)) = .lit (.int .i64 r) ∧ (Lit.int .i64 r).wf = true ∧
    ∀ k, (Instr.lookup 47 (.map (some bm)) (.agg #[.int .i64 x, .int .i64 y]) true).run Try.prog (w.drewN k) = .ok (.tuple #[.int .i64 r, .bool (Maps.has D (KL x y))]) (w.drewN k) := by
  have key : ∀ k, ∃ r, D.atKey (KL x y) (.lit (.int .i64 0)) = .lit (.int .i64 r) ∧ (Lit.int .i64 r).wf = true ∧
    (Instr.lookup 47 (.map (some bm)) (.agg #[.int .i64 x, .int .i64 y]) true).run Try.prog (w.drewN k) = .ok (.tuple #[.int .i64 r, .bool (Maps.has D (KL x y))]) (w.drewN k) := fun k => by
    obtain ⟨v, ps, hrun, hv⟩ := (h.drewN k).map.look_ok law40 Try.underlying47 (zero3 _) (plainElem_int (H := Unit) Try.underlying3 (a := 0) (by decide)) (keyOf40 hx hy)
    obtain ⟨r, rfl, hr, hw⟩ := plainElem_int_inv Try.underlying3 hv
    simp only [Prod.mk.injEq] at hr
    exact ⟨r, hr.1, hw, hrun⟩
  obtain ⟨r, hr, hw, _⟩ := key 0
  refine ⟨r, hr, hw, fun k => ?_⟩
  obtain ⟨r2, hr2, _, hrun⟩ := key k
  have e := hr2.symm.trans hr
  simp only [DataW.lit.injEq, Lit.int.injEq, true_and] at e
  subst e
  exact hrun
set_option maxHeartbeats 4000000 in
set_option maxRecDepth 100000 in
theorem put_has (h : Tab w b gt A n c bm m X D) (x y r : Int) (hm : intern_may.f x y = some true) (hx : (Lit.int .i64 x).wf = true) (hy : (Lit.int .i64 y).wf = true) (hh : Maps.has D (KL x y) = true) (hr : D.atKey (KL x y) (.lit (.int .i64 0)) = .lit (.int .i64 r)) :
    Calls Try.prog 10 #[.pointer (some ⟨gt, 0, none⟩), .int .i64 x, .int .i64 y] w fun e w' => e = .returned (.tuple #[.int .i64 r, .nilIface]) ∧ Below w.heap.size w w' := by
  have HB := Aside0.mk (Below.refl w.heap.size w)
  have HM := Aside0.mk hm
  have HT := Aside0.mk (h.below (below_alloc HB.out (.cells #[.int .i64 x, .int .i64 y] 40)))
  have HX := Aside0.mk hx
  have HY := Aside0.mk hy
  have HH := Aside0.mk hh
  have HR := Aside0.mk hr
  have hbx : (w.alloc (.cells #[.int .i64 x, .int .i64 y] 40)).heap[w.heap.size]? = some (.cells #[.int .i64 x, .int .i64 y] 40 (0, 0)) := blk_new w _
  have HBX := Aside0.mk hbx
  clear hm h hx hy hh hr hbx
  go_enter Try.func10, Try.ntmps10
  go_wp2_with (go_at_call 16; refine (intern_may.calls x y true _ HM.out).mono ?_; rintro e w3 ⟨rfl, hB⟩; have HB2 := Aside0.mk hB; clear hB)
  have HT3 := HT.out.below HB2.out
  have HBX3 := blk_below HBX.out HB2.out
  obtain ⟨r', hr', _, hrun⟩ := HT3.look HX.out HY.out
  have e := hr'.symm.trans HR.out
  simp only [DataW.lit.injEq, Lit.int.injEq, true_and] at e
  subst e
  rw [HH.out] at hrun
  have HRUN := Aside0.mk hrun
  have hc1 := (blk_cell HT3.blk 1).trans (show _ = some (.map (some bm)) from rfl)
  have hx0 := (blk_cell HBX3 0).trans (show _ = some (.int .i64 x) from rfl)
  have hx1 := (blk_cell HBX3 1).trans (show _ = some (.int .i64 y) from rfl)
  clear hr' HT3 HBX3 hrun
  refine wp_region_quiet_lit (by kernel_rfl) (by kernel_rfl) ?_
  repeat (go_big_quiet_step (fail))
  refine quiet_lookup rfl _ _ _ _ rfl rfl rfl (fun w' hw' => by obtain ⟨n, rfl⟩ := hw'; exact HRUN.out n) ?_
  simp only [Act.put, List.setIfInBounds_toArray, List.set_cons_zero, List.set_cons_succ]
  repeat (go_big_quiet_step (fail))
  refine wpQuiet_nil ?_
  intro _ hw'
  obtain ⟨nq, hw''⟩ := hw'
  subst hw''
  go_wp2
  go_ret2
  exact ⟨rfl, pw_below_drewN (below_step (below_alloc HB.out _) HB2.out) _⟩
end Go.Proofs.Ytaedbjjjdafabaa.Tb
