/- CheckMore: whatever the module, the number and the kind, the law returns true. Conditions: the number is of its kind; errors.errorType holds the handle of error. -/
import Derived.Test.YtocjpkjijjdnbaaDoorMi
namespace Go.Proofs.YtocjpkjijjdnbaaDoor.Lk
open Go.RowKit Go.Proofs.YtocjpkjijjdnbaaDoorW.PrintWords Go.Proofs.YtocjpkjijjdnbaaDoorW.PrintLast Go.Proofs.YtocjpkjijjdnbaaDoorW.PrintMore Go.Proofs.YtocjpkjijjdnbaaDoorW.PrintWords.Kd Go.Proofs.YtocjpkjijjdnbaaDoor.PCheckMore Go.Proofs.YtocjpkjijjdnbaaDoor.Lp Go.Proofs.YtocjpkjijjdnbaaDoor.Mh
attribute [local go_sem] max2_int min2_int max_two min_two max_three min_three max_four min_four
set_option linter.unusedVariables false
set_option linter.unusedSimpArgs false
variable {w w1 : World}
set_option maxHeartbeats 16000000 in
set_option maxRecDepth 100000 in
theorem more_any (m : List Fn) (Am : Option Addr) (cm : Nat) (hm : Kd.C k34 w Am m.length m) (hcm : m.length ≤ cm) (n : Int) (is : Bool) (hg : w.cell? ⟨0, 0, none⟩ = some (.iface 85 (.agg #[.pointer (some ⟨1, 28, none⟩)]))) :
    Calls Tryd.prog 3 #[.agg #[.slice Am m.length cm], .int .i64 n, .bool is] w fun e w' => e = .returned (.bool true) ∧ Below w.heap.size w w' := by
  obtain ⟨sm, hsm, hok⟩ := small_mod m
  obtain ⟨ks, hks⟩ := hsm.rounds
  have HM := Aside0.mk hm
  have HCM := Aside0.mk hcm
  have HKS := Aside0.mk hks
  have HOK := Aside0.mk hok
  have HG := Aside0.mk hg
  clear hm hcm hks hsm hok hg
  go_enter Tryd.func3, Tryd.ntmps3
  go_wp2_with ((with_reducible refine gate_dst (N := 3) rfl ?_); refine box_event ?hg (N := 3) ?hd (cs := #[.slice Am m.length cm]) (t := 24) ?hr ?_; (case hd => rfl); (case hg => rfl); (case hr => first | (go_simp; done) | (go_simp; rfl)); intro gb3 hg w2 hbox hb; have BX3 := Aside0.mk hbox; have H0 := Aside0.mk hb; have HG3 := Aside0.mk hg; have HB := Aside0.mk (Below.refl w2.heap.size w2); clear hbox hb hg; have hx3_0 : w2.cell? ⟨gb3, 0, none⟩ = some (.slice Am m.length cm) := (blk_cell BX3.out 0).trans rfl)
  refine (fettlelaw02_up.calls true _ rfl).mono ?_
  rintro e w3 ⟨rfl, hb⟩
  replace HB := Aside0.mk (below_step HB.out hb)
  clear hb hx3_0
  have hx3_0 := bx_cell BX3.out HB.out 0 (v := .slice Am m.length cm) rfl
  go_wp2_with (fail)
  refine (fettleref02_Small.calls ks Am cm m sm _ (Kd.C_below (Kd.C_below HM.out H0.out) HB.out) HCM.out HKS.out).mono ?_
  rintro e w4 ⟨rfl, hb⟩
  replace HB := Aside0.mk (below_step HB.out (by first | exact hb | exact hb.below))
  clear hb hx3_0
  cases sm with
  | false =>
    go_wp2
    go_ret
    exact ⟨rfl, below_step H0.out HB.out⟩
  | true =>
    have HOM := Aside0.mk (HOK.out rfl)
    clear HOK HKS
    have hx3_0 := bx_cell BX3.out HB.out 0 (v := .slice Am m.length cm) rfl
    by_cases c0 : n < 0
    · have d0 := decide_eq_true c0
      clear c0
      go_wp2
      go_ret
      exact ⟨rfl, below_step H0.out HB.out⟩
    have d0 := decide_eq_false c0
    by_cases c1 : (m.length : Int) ≤ n
    · have d1 := decide_eq_true c1
      clear c0 c1
      go_wp2
      go_ret
      exact ⟨rfl, below_step H0.out HB.out⟩
    obtain ⟨N, rfl⟩ := Int.eq_ofNat_of_zero_le (show 0 ≤ n by omega)
    have HN := Aside0.mk (show N < m.length by omega)
    have d1 : decide (m.length ≤ N) = false := decide_eq_false (by omega)
    clear c0 c1
    go_wp2_with (fail)
    refine (module_any (w := w4) m Am cm (Kd.C_below (Kd.C_below HM.out H0.out) HB.out) HCM.out (fun j hj => (HOM.out.each j hj).bd)).mono ?_
    rintro e w5 ⟨⟨v, rfl, hv⟩, hb⟩
    replace HB := Aside0.mk (below_step HB.out hb)
    clear hb hx3_0 d0 d1
    cases hme : modE m with
    | some ac =>
      obtain ⟨a, c⟩ := ac
      rw [hme] at hv
      clear hme
      rcases hv with ⟨rfl, rfl⟩ | ⟨_, g, _, rfl, _⟩
      all_goals
        go_wp2
        go_ret
        exact ⟨rfl, below_step H0.out HB.out⟩
    | none =>
      rw [hme] at hv
      obtain rfl : v = .nilIface := hv
      have HME := Aside0.mk hme
      clear hme
      have hx3_0 := bx_cell BX3.out HB.out 0 (v := .slice Am m.length cm) rfl
      go_wp2_with (fail)
      refine (copyS_any (w := w5) m HOM.out Am cm (Kd.C_below (Kd.C_below HM.out H0.out) HB.out) HCM.out).mono ?_
      rintro e w6 ⟨⟨v, rfl, hS⟩, hb⟩
      have HB6 := Aside0.mk hb
      obtain ⟨g, c, rfl, hg1, hg2, _⟩ := S_form hS (by have := HN.out; omega)
      have HS := Aside0.mk hS
      clear hb hx3_0 hS
      go_upto_if 37 with (fail)
      have hb7 := below_alloc (Below.refl w6.heap.size w6) (.cells #[.slice (some ⟨g, 0, none⟩) m.length c] 24)
      have hx7 := blk_new w6 (.cells #[.slice (some ⟨g, 0, none⟩) m.length c] 24)
      have hgt : g ≠ w6.heap.size := Nat.ne_of_lt hg2
      generalize w6.alloc (.cells #[.slice (some ⟨g, 0, none⟩) m.length c] 24) = w7 at hb7 hx7 ⊢
      generalize hgq : w6.heap.size = gt at hx7 hgt ⊢
      have hgl := blk_lt hx7
      have HS7 := Aside0.mk (S_below HS.out hb7)
      have HB7 := Aside0.mk (below_step HB6.out hb7)
      have HLB := Aside0.mk (show w5.heap.size ≤ w7.heap.size by have := hb7.size; omega)
      have BX7 := Aside0.mk hx7
      clear hb7 HB6 hgq
      go_cut [11] (fun v11 wx => ∃ kd : Int, (kd = 1 ∨ kd = 2) ∧ v11 = .int .i64 kd ∧ w7 = wx)
      case first =>
        go_wp2_with (fail)
        all_goals
          go_meet
          case rel => exact ⟨_, by first | exact .inl rfl | exact .inr rfl, rfl, rfl⟩
      case rest =>
        obtain ⟨kd, hkd, rfl, rfl⟩ := hcut
        have HKD := Aside0.mk hkd
        clear hkd
        have HREG := Aside0.mk (HOM.out.each N HN.out).regs
        obtain ⟨v2, oki, hc2, hR, hoki, hput⟩ := more_put (W := w7.drew) N HN.out kd (S_drew HS7.out)
        generalize hf : m.getD N z34 = f at hR hput HREG
        have HF := Aside0.mk hf
        clear hf
        obtain ⟨A2, c2, rfl⟩ := Kd.R_slice hR
        have HR := Aside0.mk hR
        have HPUT := Aside0.mk hput
        clear hR hput hoki
        have hx7_0 : w7.cell? ⟨gt, 0, none⟩ = some (.slice (some ⟨g, 0, none⟩) m.length c) := (blk_cell BX7.out 0).trans rfl
        have hx8_0 := pw_cell_below (below_alloc (Below.refl w7.heap.size w7) (.cells #[.int .i64 kd] 3)) hx7_0
        have hc3 := pw_cell_below (below_alloc (Below.refl w7.heap.size w7) (.cells #[.int .i64 kd] 3)) (show w7.cell? ⟨g, N * 4 + 2, none⟩ = _ from hc2)
        have hnl := HN.out
        go_upto_region 12 with (fail)
        go_cut [] (fun wx => Aside0 (Kd.S kX 34 wx w5.heap.size (fun _ => True) (.slice (some ⟨g, 0, none⟩) m.length c) (m.set N (more f kd))) ∧ Aside0 (wx.heap[gt]? = some (.cells #[.slice (some ⟨g, 0, none⟩) m.length c] 24 (0, 0))) ∧ Aside0 (Below w5.heap.size w5 wx))
        case first =>
          go_region_law (refine Kd.R_append_step (Kd.int .i64) (w0 := w5) (W := w7.drew) w5.heap.size ?aW (.tmp 46) (.tmp 48) 31 3 (.int .i64 0) 8 ?aV Tryd.underlying31 info3 rfl (by decide) (by omega) (.slice A2 f.f2.length c2) f.f2 kd [.int .i64 kd] (fun j => oki j ∨ w7.heap.size ≤ j) (fun _ => False) ?aX ?aY ?aP (fun _ hk => hk.elim) ?aF ?aO ?aB ?aS ?aL ?_; (case aW => first | rfl | simp [Region.wanted]); (case aV => rfl); (case aX => rfl); (case aY => first | rfl | (simp; done)); (case aP => exact rfl); (case aF => exact (fun k_ hk => .inr hk)); (case aO => exact R_mono HR.out (fun _ hk => .inl hk)); (case aB => exact below_drew HB7.out); (case aS => exact HLB.out); (case aL => have := HREG.out; omega); intro v1 w1 hR1 hb1 hg1 hat1; obtain ⟨hq1, hf1, hS1⟩ := HPUT.out w1 v1 hg1 hat1 hR1; have hbx1 := blk_grown (blk_drew BX7.out) hg1 (R_ne HR.out (blk_drew BX7.out) (by decide)); obtain ⟨A5, c5, e5⟩ := Kd.R_slice hR1; subst e5; rw [show (f.f2 ++ [kd]).length = f.f2.length + 1 from List.length_append] at hS1; have hx1_0 : w1.cell? ⟨gt, 0, none⟩ = some (.slice (some ⟨g, 0, none⟩) m.length c) := (blk_cell hbx1 0).trans rfl; have HS1 := Aside0.mk hS1; have HB1 := Aside0.mk hb1; have BX1 := Aside0.mk hbx1; clear hS1 hb1 hg1 hR1 hat1 hbx1)
          all_goals
            go_wp2_with (fail)
            go_meet
            case rel => exact ⟨HS1, ⟨blk_far (p := ⟨g, _, none⟩) BX1.out hgt.symm _⟩, ⟨HB1.out.setCell hg1 _⟩⟩
        case rest =>
          obtain ⟨HSX, BXX, HBX⟩ := hcut
          clear hx7_0 hx8_0 hc2 hc3 hgl HR HPUT BX7 HB7 HS7 HS
          have hx9_0 : wc.cell? ⟨gt, 0, none⟩ = some (.slice (some ⟨g, 0, none⟩) m.length c) := (blk_cell BXX.out 0).trans rfl
          have hlen : (m.set N (more f kd)).length = m.length := List.length_set
          have hrd := S_reads' HSX.out
          have hcon := module_any (w := wc) (m.set N (more f kd)) (some ⟨g, 0, none⟩) c (show Kd.C k34 wc _ _ _ from hrd.2.2) (by rw [hlen]; exact hrd.2.1) (fun j hj => by
            rw [hlen] at hj
            have e := getD_set m N j (more f kd) z34 HN.out
            rw [e]
            by_cases e2 : N = j
            · rw [if_pos e2]
              have := (HOM.out.each N HN.out).bd
              rw [HF.out] at this
              exact this
            · rw [if_neg e2]
              exact (HOM.out.each j hj).bd)
          have hmm := mod_more m N HN.out kd HKD.out HME.out
          rw [HF.out] at hmm
          rw [hlen, hmm] at hcon
          have HC := Aside0.mk hcon
          clear hcon hmm hrd hlen
          have HBW := Aside0.mk (below_step H0.out (below_step HB.out HBX.out))
          go_wp2_with (fail)
          refine HC.out.mono ?_
          rintro e w8 ⟨⟨v, rfl, hv⟩, hb⟩
          have HB8 := Aside0.mk (below_step HBW.out hb)
          have hx3_0 := bx_cell BX3.out (below_step HB.out (below_step HBX.out hb)) 0 (v := .slice Am m.length cm) rfl
          clear hb hx9_0
          obtain ⟨am, A3, c3, A4, c4, ex, hy0, hy1, hy2, hy3, _⟩ := at_T34 (Kd.C_below HM.out HB8.out) (N : Int) (by omega) (by have := HN.out; omega)
          cases ex
          rw [Int.toNat_natCast] at hy2
          rw [show rd_T34 m (N : Int) = f from HF.out] at hy2
          clear hy0 hy1 hy3
          by_cases e : f.f2.length = 256
          · rw [if_pos e] at hv
            rw [e] at hy2
            obtain ⟨h1, _⟩ | ⟨_, g8, _, rfl, hx8⟩ := hv
            · exact absurd h1 (by omega)
            have HX8 := Aside0.mk hx8
            clear hx8 e
            go_wp2_with (fail)
            refine (Nc.is_spot g8 (N : Int) (N : Int) 5 5 w8 (pw_cell_below HB8.out HG.out) HX8.out).mono ?_
            rintro e w9 ⟨rfl, hb⟩
            have HB9 := Aside0.mk (below_step HB8.out hb)
            clear hb
            rw [show ((5 : Int) == 5 && (N : Int) == (N : Int)) = true by simp]
            go_wp2
            go_ret
            exact ⟨rfl, HB9.out⟩
          · rw [if_neg e] at hv
            obtain rfl : v = .nilIface := hv
            have h0_1 : (((f.f2.length : Int)) == ((256 : Int))) = false := beq_eq_false_iff_ne.mpr (show (f.f2.length : Int) ≠ 256 by omega)
            have h0_2 : (((f.f2.length : Int)) != ((256 : Int))) = true := bne_iff_ne.mpr (show (f.f2.length : Int) ≠ 256 by omega)
            have h3_1 : ((f.f2.length) == (256)) = false := beq_eq_false_iff_ne.mpr (show f.f2.length ≠ 256 from e)
            have h3_2 : ((f.f2.length) != (256)) = true := bne_iff_ne.mpr (show f.f2.length ≠ 256 from e)
            go_wp2
            go_ret
            exact ⟨rfl, HB8.out⟩
end Go.Proofs.YtocjpkjijjdnbaaDoor.Lk
