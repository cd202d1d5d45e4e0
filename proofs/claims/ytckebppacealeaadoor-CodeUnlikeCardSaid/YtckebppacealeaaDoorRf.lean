/- CodeUnlike: whatever the modules, the law returns true. Conditions: numbers of 64 bits with a sign; errors.errorType holds the handle of error. -/
import Derived.Test.YtckebppacealeaaDoorRd
import Derived.Test.YtckebppacealeaaDoorRe
import Derived.Test.YtckebppacealeaaDoorMc
namespace Go.Proofs.YtckebppacealeaaDoor.Rk
open Go.RowKit Go.Proofs.YtckebppacealeaaDoorW.PrintWords Go.Proofs.YtckebppacealeaaDoorW.PrintLast Go.Proofs.YtckebppacealeaaDoorW.PrintMore Go.Proofs.YtckebppacealeaaDoorW.PrintWords.Kd Go.Proofs.YtckebppacealeaaDoor.PCodeUnlike Go.Proofs.YtckebppacealeaaDoor.Lp Go.Proofs.YtckebppacealeaaDoor.Lk Go.Proofs.YtckebppacealeaaDoor.Lr
attribute [local go_sem] max2_int min2_int max_two min_two max_three min_three max_four min_four
set_option linter.unusedVariables false
set_option linter.unusedSimpArgs false
variable {w w1 : World}
theorem text_eq {a b : ByteArray} : a.toList = b.toList ↔ a = b := by
  rw [ByteArray.toList_eq, ByteArray.toList_eq]
  refine ⟨fun h => ?_, fun h => by rw [h]⟩
  cases a; cases b
  congr 1
  exact Array.toList_inj.mp h
set_option maxHeartbeats 16000000 in
set_option maxRecDepth 100000 in
theorem unlike_any (m n : List Lk.Fn) (hrm : ∀ f ∈ m, RFunc f) (hrn : ∀ f ∈ n, RFunc f) (Am An : Option Addr) (cm cn : Nat) (hm : Kd.C k50 w Am m.length m) (hcm : m.length ≤ cm) (hn : Kd.C k50 w An n.length n) (hcn : n.length ≤ cn)
    (hg : w.cell? ⟨0, 0, none⟩ = some (.iface 130 (.agg #[.pointer (some ⟨1, 29, none⟩)]))) :
    Calls Tryd.prog 8 #[.agg #[.slice Am m.length cm], .agg #[.slice An n.length cn]] w fun e w' => e = .returned (.bool true) ∧ Below w.heap.size w w' := by
  obtain ⟨sm, hsm, hok⟩ := small_mod m
  obtain ⟨ks, hks⟩ := hsm.rounds
  obtain ⟨sn, hsn, hokn⟩ := small_mod n
  obtain ⟨kt, hkt⟩ := hsn.rounds
  have HM := Aside0.mk hm
  have HN := Aside0.mk hn
  have HCM := Aside0.mk hcm
  have HCN := Aside0.mk hcn
  have HKS := Aside0.mk hks
  have HKT := Aside0.mk hkt
  have HOK := Aside0.mk hok
  have HON := Aside0.mk hokn
  have HG := Aside0.mk hg
  have HRM := Aside0.mk hrm
  have HRN := Aside0.mk hrn
  clear hm hn hcm hcn hks hkt hok hokn hg hsm hsn hrm hrn
  go_enter Tryd.func8, Tryd.ntmps8
  go_wp2_with (first | ((with_reducible refine gate_dst (N := 2) rfl ?_); refine box_event ?hg (N := 2) ?hd (cs := #[.slice Am m.length cm]) (t := 24) ?hr ?_; (case hd => rfl); (case hg => rfl); (case hr => first | (go_simp; done) | (go_simp; rfl)); intro gb2 hg w2 hbox hb; have BX2 := Aside0.mk hbox; have H0 := Aside0.mk hb; have HG2 := Aside0.mk hg; have HB := Aside0.mk (Below.refl w2.heap.size w2); clear hbox hb hg; have hx2_0 : w2.cell? ⟨gb2, 0, none⟩ = some (.slice Am m.length cm) := (blk_cell BX2.out 0).trans rfl) | ((with_reducible refine gate_dst (N := 3) rfl ?_); refine box_event ?hg (N := 3) ?hd (cs := #[.slice An n.length cn]) (t := 24) ?hr ?_; (case hd => rfl); (case hg => rfl); (case hr => first | (go_simp; done) | (go_simp; rfl)); intro gb3 hg w3 hbox hb; have BX3 := Aside0.mk hbox; replace H0 := Aside0.mk (below_step H0.out hb); replace BX2 := Aside0.mk (blk_below BX2.out hb); replace HB := Aside0.mk (Below.refl w3.heap.size w3); clear hbox hb hg; have hx3_0 : w3.cell? ⟨gb3, 0, none⟩ = some (.slice An n.length cn) := (blk_cell BX3.out 0).trans rfl; replace hx2_0 : w3.cell? ⟨gb2, 0, none⟩ = some (.slice Am m.length cm) := (blk_cell BX2.out 0).trans rfl))
  refine (up_any w3 (pw_cell_below H0.out HG.out)).mono ?_
  rintro e w4 ⟨rfl, hb⟩
  replace HB := Aside0.mk (below_step HB.out hb)
  clear hb hx2_0 hx3_0
  have hx2_0 := bx_cell BX2.out HB.out 0 (v := .slice Am m.length cm) rfl
  have hx3_0 := bx_cell BX3.out HB.out 0 (v := .slice An n.length cn) rfl
  go_wp2_with (fail)
  refine (fettleref02_Small.calls ks Am cm m sm _ (Kd.C_below (Kd.C_below HM.out H0.out) HB.out) HCM.out HKS.out).mono ?_
  rintro e w5 ⟨rfl, hb⟩
  replace HB := Aside0.mk (below_step HB.out (by first | exact hb | exact hb.below))
  clear hb hx2_0 hx3_0
  cases sm with
  | false =>
    go_wp2
    go_ret
    exact ⟨rfl, below_step H0.out HB.out⟩
  | true =>
    have HOM := Aside0.mk (HOK.out rfl)
    clear HOK HKS
    have hx2_0 := bx_cell BX2.out HB.out 0 (v := .slice Am m.length cm) rfl
    have hx3_0 := bx_cell BX3.out HB.out 0 (v := .slice An n.length cn) rfl
    go_wp2_with (fail)
    refine (fettleref02_Small.calls kt An cn n sn _ (Kd.C_below (Kd.C_below HN.out H0.out) HB.out) HCN.out HKT.out).mono ?_
    rintro e w6 ⟨rfl, hb⟩
    replace HB := Aside0.mk (below_step HB.out (by first | exact hb | exact hb.below))
    clear hb hx2_0 hx3_0
    cases sn with
    | false =>
      go_wp2
      go_ret
      exact ⟨rfl, below_step H0.out HB.out⟩
    | true =>
      have HOn := Aside0.mk (HON.out rfl)
      clear HON HKT
      have hx2_0 := bx_cell BX2.out HB.out 0 (v := .slice Am m.length cm) rfl
      have hx3_0 := bx_cell BX3.out HB.out 0 (v := .slice An n.length cn) rfl
      go_wp2_with (fail)
      refine (encode_any (w := w6) m HOM.out Am cm (Kd.C_below (Kd.C_below HM.out H0.out) HB.out) HCM.out).mono ?_
      rintro e w7 ⟨⟨va, ea, rfl, hea, hra, _⟩, hb⟩
      have HEA := Aside0.mk hea
      have HRA := Aside0.mk hra
      replace HB := Aside0.mk (below_step HB.out hb)
      clear hb hx2_0 hx3_0 hea hra
      have hx2_0 := bx_cell BX2.out HB.out 0 (v := .slice Am m.length cm) rfl
      have hx3_0 := bx_cell BX3.out HB.out 0 (v := .slice An n.length cn) rfl
      go_wp2_with (fail)
      refine (encode_any (w := w7) n HOn.out An cn (Kd.C_below (Kd.C_below HN.out H0.out) HB.out) HCN.out).mono ?_
      rintro e w8 ⟨⟨vb, eb, rfl, heb, hrb, _⟩, hb⟩
      have HEB := Aside0.mk heb
      have HRB := Aside0.mk hrb
      have HB8 := Aside0.mk hb
      replace HB := Aside0.mk (below_step HB.out hb)
      clear hb hx2_0 hx3_0 heb hrb
      cases hme : modE m with
      | some ac =>
        obtain ⟨a, c⟩ := ac
        have hv := HEA.out
        rw [hme] at hv
        clear hme
        rcases hv with ⟨rfl, rfl⟩ | ⟨_, g, _, rfl, _⟩
        all_goals
          go_wp2
          go_ret
          exact ⟨rfl, below_step H0.out HB.out⟩
      | none =>
        have hv := HEA.out
        rw [hme] at hv
        obtain rfl : ea = .nilIface := hv
        have hra := HRA.out hme
        clear hme HRA HEA
        cases hne : modE n with
        | some ac =>
          obtain ⟨a, c⟩ := ac
          have hv := HEB.out
          rw [hne] at hv
          clear hne
          rcases hv with ⟨rfl, rfl⟩ | ⟨_, g, _, rfl, _⟩
          all_goals
            go_wp2
            go_ret
            exact ⟨rfl, below_step H0.out HB.out⟩
        | none =>
          have hv := HEB.out
          rw [hne] at hv
          obtain rfl : eb = .nilIface := hv
          have hrb := HRB.out hne
          clear hne HRB HEB
          obtain ⟨Aa, ca, rfl⟩ := Kd.R_slice hra
          obtain ⟨Ab, cb, rfl⟩ := Kd.R_slice hrb
          have BX2w := blk_below BX2.out HB.out
          have BX3w := blk_below BX3.out HB.out
          have K2 := Aside0.mk (show ∀ W, Below w8.heap.size w8 W → W.cell? ⟨gb2, 0, none⟩ = some (.slice Am m.length cm) ∧ W.cell? ⟨gb3, 0, none⟩ = some (.slice An n.length cn) ∧ (Go.convert 27 9 (.slice Aa (encMod m).length ca)).run Tryd.prog W = .ok (.string (strOfNums (encMod m))) W ∧ (Go.convert 27 9 (.slice Ab (encMod n).length cb)).run Tryd.prog W = .ok (.string (strOfNums (encMod n))) W from
            fun W hW => ⟨(blk_cell (blk_below BX2w hW) 0).trans rfl, (blk_cell (blk_below BX3w hW) 0).trans rfl, conv_text (Kd.R_below hra (below_step HB8.out hW)), conv_text (Kd.R_below hrb hW)⟩)
          have INJ := Aside0.mk ((str_inj (mod_byte m) (mod_byte n)).trans (encMod_inj HRM.out HOM.out HRN.out HOn.out))
          have HB9 := Aside0.mk (Below.refl w8.heap.size w8)
          clear BX2w BX3w hra hrb
          go_upto_region 8 with (fail)
          by_cases h : m = n
          · have hp := Aside0.mk h
            have hs2 : ((strOfNums (encMod m)).toList == (strOfNums (encMod n)).toList) = true := beq_iff_eq.mpr (text_eq.mpr (INJ.out.mpr h))
            generalize strOfNums (encMod m) = sa at K2 hs2
            generalize strOfNums (encMod n) = sb at K2 hs2
            clear h INJ
            go_region_held3 (fun W => W.cell? ⟨gb2, 0, none⟩ = some (.slice Am m.length cm) ∧ W.cell? ⟨gb3, 0, none⟩ = some (.slice An n.length cn) ∧ (Go.convert 27 9 (.slice Aa (encMod m).length ca)).run Tryd.prog W = .ok (.string sa) W ∧ (Go.convert 27 9 (.slice Ab (encMod n).length cb)).run Tryd.prog W = .ok (.string sb) W)
              (exact K2.out _ (by repeat (with_reducible first | exact HB9.out | apply below_alloc | apply pw_below_drewN | apply below_drew1)))
              (first | (go_at_call 17; refine (Says.yes (same_any m n Am An cm cn (Kd.C_below (Kd.C_below HM.out H0.out) (below_step HB.out (by repeat (with_reducible first | exact HB9.out | apply below_alloc | apply pw_below_drewN | apply below_drew1)))) (Kd.C_below (Kd.C_below HN.out H0.out) (below_step HB.out (by repeat (with_reducible first | exact HB9.out | apply below_alloc | apply pw_below_drewN | apply below_drew1))))) hp.out).mono ?_; rintro e w10 ⟨rfl, hb⟩; replace HB9 := Aside0.mk (below_step (by repeat (with_reducible first | exact HB9.out | apply below_alloc | apply pw_below_drewN | apply below_drew1)) hb); clear hb))
            go_wp2
            go_ret
            exact ⟨by first | rfl | (simp [hs2]; done), below_step H0.out (below_step HB.out HB9.out)⟩
          · have hp := Aside0.mk h
            have hs2 : ((strOfNums (encMod m)).toList == (strOfNums (encMod n)).toList) = false := beq_eq_false_iff_ne.mpr (fun e => h (INJ.out.mp (text_eq.mp e)))
            generalize strOfNums (encMod m) = sa at K2 hs2
            generalize strOfNums (encMod n) = sb at K2 hs2
            clear h INJ
            go_region_held3 (fun W => W.cell? ⟨gb2, 0, none⟩ = some (.slice Am m.length cm) ∧ W.cell? ⟨gb3, 0, none⟩ = some (.slice An n.length cn) ∧ (Go.convert 27 9 (.slice Aa (encMod m).length ca)).run Tryd.prog W = .ok (.string sa) W ∧ (Go.convert 27 9 (.slice Ab (encMod n).length cb)).run Tryd.prog W = .ok (.string sb) W)
              (exact K2.out _ (by repeat (with_reducible first | exact HB9.out | apply below_alloc | apply pw_below_drewN | apply below_drew1)))
              (first | (go_at_call 17; refine (Says.no (same_any m n Am An cm cn (Kd.C_below (Kd.C_below HM.out H0.out) (below_step HB.out (by repeat (with_reducible first | exact HB9.out | apply below_alloc | apply pw_below_drewN | apply below_drew1)))) (Kd.C_below (Kd.C_below HN.out H0.out) (below_step HB.out (by repeat (with_reducible first | exact HB9.out | apply below_alloc | apply pw_below_drewN | apply below_drew1))))) hp.out).mono ?_; rintro e w10 ⟨rfl, hb⟩; replace HB9 := Aside0.mk (below_step (by repeat (with_reducible first | exact HB9.out | apply below_alloc | apply pw_below_drewN | apply below_drew1)) hb); clear hb))
            go_wp2
            go_ret
            exact ⟨by first | rfl | (simp [hs2]; done), below_step H0.out (below_step HB.out HB9.out)⟩
end Go.Proofs.YtckebppacealeaaDoor.Rk
