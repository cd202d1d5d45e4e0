/- Put of a new value where there is room: its handle, and the table behind it. Conditions: a table of 1 to 16 drawers, fewer than 4096 values. -/
import Derived.Test.YtaedbjjjdafabaaTc
import Derived.StillTailTactics
import Derived.Deep.RegionLaw
import Derived.Maps.Own
namespace Go.Proofs.Ytaedbjjjdafabaa.Tb
open Go.RowKit Go.Proofs.YtaedbjjjdafabaaW.PrintWords Go.Proofs.YtaedbjjjdafabaaW.PrintLast Go.Proofs.YtaedbjjjdafabaaW.PrintMore Go.Proofs.YtaedbjjjdafabaaW.PrintWords.Kd Go.Maps Go.Proofs.Ytaedbjjjdafabaa.PInternFull
attribute [local go_sem] max2_int min2_int max_two min_two max_three min_three max_four min_four
set_option linter.unusedVariables false
set_option linter.unusedSimpArgs false
variable {w w1 : World} {b gt : Nat} {A : Option Addr} {n c bm m : Nat} {X : List (List (Int × Int))} {D : DataW Unit}
/-- The handle that a new value gets. -/
def hnd (X : List (List (Int × Int))) (x y : Int) (n : Nat) : Int := wrap64 (wrap64 (((X.getD (drw x y n).toNat []).length : Int) * (n : Int)) + drw x y n)
def put (X : List (List (Int × Int))) (x y : Int) (n : Nat) : List (List (Int × Int)) := X.set (drw x y n).toNat (X.getD (drw x y n).toNat [] ++ [(x, y)])
theorem Tab.stored (h : Tab w b gt A n c bm m X D) {D' : DataW Unit} {m' : Nat} (hm : w1.ownsMap Try.prog 40 (plainElem Try.prog 3) bm m' D') (hg : w.grownBy w1 (some bm)) : Tab w1 b gt A n c bm m' X D' := by
  obtain ⟨es, cl, hb, _⟩ := id h.map
  refine ⟨blk_grown h.blk hg (by intro e; exact h.ne (Option.some.inj e)), S_mono (S_grown (S_bound h.rows) hg ?_) (fun _ _ => trivial), hm, h.ge, h.gem⟩
  rintro k ⟨_, _, _, q, _, cells, hc⟩ e
  obtain rfl := Option.some.inj e
  rw [hb] at hc
  injection hc with e
  cases e
theorem below_then_grown {B k : Nat} {w w1 w2 : World} (h : Below B w w1) (hg : w1.grownBy w2 (some k)) (hk : B ≤ k) (hB : B ≤ w.heap.size) : Below B w w2 :=
  h.grown hg (Nat.le_trans hB h.size) (fun j hj => by cases hj; exact hk)
set_option maxHeartbeats 8000000 in
set_option maxRecDepth 100000 in
theorem put_new (h : Tab w b gt A n c bm m X D) (hbw : b ≤ w.heap.size) (x y : Int) (hm : intern_may.f x y = some true) (hx : (Lit.int .i64 x).wf = true) (hy : (Lit.int .i64 y).wf = true) (hh : Maps.has D (KL x y) = false) (hs : Maps.size D < 4096)
    (hn1 : 1 ≤ n) (hn2 : n ≤ 16) (hmm : m < maxLen) (hl : (X.getD (drw x y n).toNat []).length < 8796093022207) :
    Calls Try.prog 10 #[.pointer (some ⟨gt, 0, none⟩), .int .i64 x, .int .i64 y] w fun e w' => e = .returned (.tuple #[.int .i64 (hnd X x y n), .nilIface]) ∧ Below b w w' ∧ Tab w' b gt A n c bm (m + 1) (put X x y n) (D.put (KL x y) (.lit (.int .i64 (hnd X x y n)))) := by
  have HB := Aside0.mk (Below.refl w.heap.size w)
  have HBW := Aside0.mk hbw
  have HM := Aside0.mk hm
  have HT := Aside0.mk (h.below (below_alloc HB.out (.cells #[.int .i64 x, .int .i64 y] 40)))
  have HX := Aside0.mk hx
  have HY := Aside0.mk hy
  have HH := Aside0.mk hh
  have HN1 := Aside0.mk hn1
  have HN2 := Aside0.mk hn2
  have HMM := Aside0.mk hmm
  have HBX := Aside0.mk (blk_new w (.cells #[.int .i64 x, .int .i64 y] 40))
  have hs' : ¬ ((4096 : Int) ≤ (Maps.size D : Int)) := by omega
  have hs1 : decide ((4096 : Int) ≤ (Maps.size D : Int)) = false := decide_eq_false hs'
  have hs2 := eq_false hs'
  obtain ⟨bd0, bd1⟩ := drw_bd x y hn1 hn2
  obtain ⟨g, Ae, ce, oki, eA, hge, hv, hR, hput⟩ := h.elem (drw x y n) bd0 bd1
  subst eA
  obtain ⟨l, el⟩ : ∃ l, l = X.getD (drw x y n).toNat [] := ⟨_, rfl⟩
  rw [← el] at hv hR hput hl
  have HROW := Aside0.mk (R_lt hR)
  have HL := Aside0.mk hl
  have EL := Aside0.mk el
  have HGE := Aside0.mk hge
  have HR := Aside0.mk hR
  have HPUT := Aside0.mk hput
  have HV := Aside0.mk hv
  have BD0 := Aside0.mk bd0
  have BD1 := Aside0.mk bd1
  clear hm h hx hy hh hs hs' hn1 hn2 hmm hl el hbw hR hput hge hv bd0 bd1
  go_enter Try.func10, Try.ntmps10
  go_wp2_with (go_at_call 16; refine (intern_may.calls x y true _ HM.out).mono ?_; rintro e w3 ⟨rfl, hB⟩; have HB2 := Aside0.mk hB; clear hB)
  have HT3 := Aside0.mk (HT.out.below HB2.out)
  have HBX3 := Aside0.mk (blk_below HBX.out HB2.out)
  obtain ⟨r', hr', _, hrun⟩ := HT3.out.look HX.out HY.out
  rw [HH.out] at hrun
  have HRUN := Aside0.mk hrun
  have hc1 := (blk_cell HT3.out.blk 1).trans (show _ = some (.map (some bm)) from rfl)
  have hx0 := (blk_cell HBX3.out 0).trans (show _ = some (.int .i64 x) from rfl)
  have hx1 := (blk_cell HBX3.out 1).trans (show _ = some (.int .i64 y) from rfl)
  clear hr' hrun
  refine wp_region_quiet_lit (by kernel_rfl) (by kernel_rfl) ?_
  repeat (go_big_quiet_step (fail))
  refine quiet_lookup rfl _ _ _ _ rfl rfl rfl (fun w' hw' => by obtain ⟨n, rfl⟩ := hw'; exact HRUN.out n) ?_
  simp only [Act.put, List.setIfInBounds_toArray, List.set_cons_zero, List.set_cons_succ]
  repeat (go_big_quiet_step (fail))
  refine wpQuiet_nil ?_
  intro _ hw'
  obtain ⟨nq, hw''⟩ := hw'
  subst hw''
  go_wp2_with (first
    | (at_len; refine wpList_len_own _ rfl _ 47 rfl 40 3 Try.underlying47 (plainElem Try.prog 3) bm m D rfl (HT3.out.drewN nq).map ?_)
    | (go_at_call 17; refine (drawer_any (HT3.out.drewN nq) x y HN1.out HN2.out).mono ?_; rintro e w5 ⟨rfl, hB⟩; have HB5 := Aside0.mk hB; clear hB))
  have HT5 := Aside0.mk ((HT3.out.drewN nq).below HB5.out)
  have HBX5 := Aside0.mk (blk_below (blk_drewN HBX3.out nq) HB5.out)
  have HB6 := Aside0.mk (below_step (pw_below_drewN (below_step (below_alloc HB.out (.cells #[.int .i64 x, .int .i64 y] 40)) HB2.out) nq) HB5.out)
  have d0 := eq_true BD0.out
  have d1 := eq_true BD1.out
  have d2 : decide (0 ≤ drw x y n) = true := decide_eq_true BD0.out
  have d3 : decide (drw x y n < (n : Int)) = true := decide_eq_true BD1.out
  have hv := pw_cell_below HB6.out HV.out
  have HBW5 := Aside0.mk (Nat.le_trans HBW.out HB6.out.size)
  clear HB HB2 HT HT3 HBX HBX3 HRUN HB5 hc1 hx0 hx1 hs1 hs2
  have hc0 := (blk_cell HT5.out.blk 0).trans (show _ = some (.slice (some ⟨g, 0, none⟩) n c) from rfl)
  have hc1 := (blk_cell HT5.out.blk 1).trans (show _ = some (.map (some bm)) from rfl)
  have hx0 := (blk_cell HBX5.out 0).trans (show _ = some (.int .i64 x) from rfl)
  have hx1 := (blk_cell HBX5.out 1).trans (show _ = some (.int .i64 y) from rfl)
  go_quiet (fail)
  go_wp2
  have HT6 := Aside0.mk (HT5.out.drewN nq)
  have HBX6 := Aside0.mk (blk_drewN HBX5.out nq)
  have HB7 := Aside0.mk (pw_below_drewN HB6.out nq)
  have hv6 := pw_cell_below HB7.out HV.out
  have hsz : (w5.drewN nq).heap.size = w5.heap.size := rfl
  rw [← hsz] at HBW5
  clear hsz HT5 HBX5 HB6 hv hc0 hc1 hx0 hx1
  generalize w5.drewN nq = w6 at HT6 HBX6 HB7 HBW5 hv6 ⊢
  have hc0 := (blk_cell HT6.out.blk 0).trans (show _ = some (.slice (some ⟨g, 0, none⟩) n c) from rfl)
  have hx0 := (blk_cell HBX6.out 0).trans (show _ = some (.int .i64 x) from rfl)
  have hx1 := (blk_cell HBX6.out 1).trans (show _ = some (.int .i64 y) from rfl)
  have hv6a := pw_cell_below (below_alloc (Below.refl w6.heap.size w6) (.cells #[.int .i64 x, .int .i64 y] 40)) hv6
  have hc0a := pw_cell_below (below_alloc (Below.refl w6.heap.size w6) (.cells #[.int .i64 x, .int .i64 y] 40)) hc0
  have hx0a := pw_cell_below (below_alloc (Below.refl w6.heap.size w6) (.cells #[.int .i64 x, .int .i64 y] 40)) hx0
  have hx1a := pw_cell_below (below_alloc (Below.refl w6.heap.size w6) (.cells #[.int .i64 x, .int .i64 y] 40)) hx1
  go_upto_region 11 with (fail)
  have hx6 := blk_lt HBX6.out
  go_cut [] from 57 to 72 (fun wx => Aside0 (Tab wx b gt (some ⟨g, 0, none⟩) n c bm m (put X x y n) D) ∧ Aside0 (wx.heap[w.heap.size]? = some (.cells #[.int .i64 x, .int .i64 y] 40 (0, 0))) ∧ Aside0 (Below b w wx))
  case first =>
    go_region_law (refine Kd.R_append_step kV (w0 := w6) (W := w6.drew) b ?aW (.tmp 68) (.tmp 70) 36 40 (.agg #[.int .i64 0, .int .i64 0]) 16 ?aV Try.underlying36 info40 rfl (by decide) (by omega) (.slice Ae l.length ce) l (x, y) [.int .i64 x, .int .i64 y] (fun k_ => oki k_ ∨ True ∧ w.heap.size ≤ k_) (fun _ => False) ?aX ?aY ?aP (fun _ hk => hk.elim) ?aF ?aO ?aB ?aS ?aL ?_; (case aW => first | rfl | simp [Region.wanted]); (case aV => rfl); (case aX => rfl); (case aY => first | rfl | (simp; done)); (case aP => exact ⟨[.int .i64 x], [.int .i64 y], rfl, rfl, rfl⟩); (case aF => exact (fun k_ hk => .inr ⟨trivial, Nat.le_trans HB7.out.size hk⟩)); (case aO => exact R_drew (R_mono (R_below HR.out HB7.out) (fun _ hk => .inl hk))); (case aB => exact (below_drew (Below.refl _ _)).mono HBW5.out); (case aS => exact HBW5.out); (case aL => have := HL.out; omega); intro v1 w1 hR hb hg hat; obtain ⟨hx4, hf4, hc4, hS4⟩ := HPUT.out _ w1 v1 _ (below_drew HB7.out) hg hR; obtain ⟨A5, c5, e5⟩ := Kd.R_slice hR; subst e5; have HS := Aside0.mk hS4; have HB8 := Aside0.mk hb; have HG8 := Aside0.mk hg; clear hS4 hb hg hR hat)
    all_goals (go_wp2_with (fail); go_meet; case rel => exact ⟨⟨by unfold put; rw [← EL.out]; have h := HS.out; simp only [List.length_append, List.length_cons, List.length_nil, Nat.zero_add] at h; exact h⟩, ⟨blk_far (p := ⟨g, _, none⟩) (blk_grown (blk_drew HBX6.out) HG8.out (fun e => Nat.lt_irrefl _ (HROW.out _ e.symm))) (Nat.ne_of_gt (World.block_lt_of_cell? w _ HV.out)) _⟩, ⟨((HB7.out.mono HBW.out).trans HB8.out).setCell HGE.out _⟩⟩)
  case rest =>
    obtain ⟨HT9, HX9, HB9⟩ := hcut
    clear hc0 hx0 hx1 hv6a hc0a hx0a hx1a
    have hc1 := (blk_cell HT9.out.blk 1).trans (show _ = some (.map (some bm)) from rfl)
    have hx0 := (blk_cell HX9.out 0).trans (show _ = some (.int .i64 x) from rfl)
    have hx1 := (blk_cell HX9.out 1).trans (show _ = some (.int .i64 y) from rfl)
    go_wp2
    go_still_tail 6, (by kernel_rfl)
    change wpList _ _ _ _ _ wc.drew
    have HH9 := Aside0.mk (show Tab wc.drew b gt (some ⟨g, 0, none⟩) n c bm m (put X x y n) D from HT9.out.below (below_drew (Below.refl _ _)))
    have HB10 := Aside0.mk (below_drew HB9.out)
    have hwf : (Lit.int .i64 (wrap64 (wrap64 (↑l.length * ↑n) + drw x y n))).wf = true := wrap64_wf _
    have HWF := Aside0.mk hwf
    clear hc1 hx0 hx1 HT9 HX9 HB9 hwf
    generalize wc.drew = w9 at HH9 HB10 ⊢
    refine wpList_mapUpdate_own _ rfl _ _ _ 47 rfl 40 3 law40 Try.underlying47 (plainElem Try.prog 3) bm m D rfl HH9.out.map HMM.out (.agg #[.int .i64 x, .int .i64 y]) _ (KL x y) rfl rfl (keyOf40 HX.out HY.out) _ [] (plainElem_int Try.underlying3 HWF.out) ?_
    intro w10 hown hg
    have HT11 := Aside0.mk (HH9.out.stored hown hg)
    have HB11 := Aside0.mk (below_then_grown HB10.out hg HH9.out.gem HBW.out)
    clear hown hg
    go_wp2
    go_ret2
    refine ⟨?_, HB11.out, ?_⟩
    · rw [show hnd X x y n = wrap64 (wrap64 (↑l.length * ↑n) + drw x y n) from by unfold hnd; rw [EL.out]]; rfl
    · rw [show hnd X x y n = wrap64 (wrap64 (↑l.length * ↑n) + drw x y n) from by unfold hnd; rw [EL.out]]; exact HT11.out
end Go.Proofs.Ytaedbjjjdafabaa.Tb
