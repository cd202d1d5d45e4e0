/- CodeBack: whatever the module and the bytes, the law returns true. Conditions: numbers of 64 bits with a sign, bytes; errors.errorType holds the handle of error. -/
import Derived.Test.YtckebppacealeaaDoorUc
import Derived.Test.YtckebppacealeaaDoorMc
namespace Go.Proofs.YtckebppacealeaaDoor.Rk
open Go.RowKit Go.Proofs.YtckebppacealeaaDoorW.PrintWords Go.Proofs.YtckebppacealeaaDoorW.PrintLast Go.Proofs.YtckebppacealeaaDoorW.PrintMore Go.Proofs.YtckebppacealeaaDoorW.PrintWords.Kd Go.Proofs.YtckebppacealeaaDoor.PCodeUnlike Go.Proofs.YtckebppacealeaaDoor.Lp Go.Proofs.YtckebppacealeaaDoor.Lk Go.Proofs.YtckebppacealeaaDoor.Lr
attribute [local go_sem] max2_int min2_int max_two min_two max_three min_three max_four min_four
set_option linter.unusedVariables false
set_option linter.unusedSimpArgs false
variable {w w1 : World}
theorem encMod_len {m : List Lk.Fn} (h : OkM m) : (encMod m).length ≤ 10000000000 := by
  have h1 := u64_ten m.length
  have h5 := flat_len' z50 encFunc 200000000 m (fun i hi => encFunc_len _ (h.each i hi)) m.length
  have h6 := h.n
  rw [List.take_length] at h5
  unfold encMod
  simp only [List.length_append, List.length_cons, List.length_nil]
  omega
set_option maxHeartbeats 16000000 in
set_option maxRecDepth 100000 in
theorem back_any (m : List Lk.Fn) (hrm : ∀ f ∈ m, RFunc f) (Am : Option Addr) (cm : Nat) (hm : Kd.C k50 w Am m.length m) (hcm : m.length ≤ cm) (bs : List Int) (hby : ∀ a ∈ bs, Byte a) (Ab : Option Addr) (cb : Nat) (hb : Kd.C (Kd.int .u8) w Ab bs.length bs) (hcb : bs.length ≤ cb)
    (hg : w.cell? ⟨0, 0, none⟩ = some (.iface 130 (.agg #[.pointer (some ⟨1, 29, none⟩)]))) :
    Calls Tryd.prog 5 #[.agg #[.slice Am m.length cm], .slice Ab bs.length cb] w fun e w' => e = .returned (.bool true) ∧ Below w.heap.size w w' := by
  obtain ⟨sm, hsm, hok⟩ := small_mod m
  obtain ⟨ks, hks⟩ := hsm.rounds
  have HM := Aside0.mk hm
  have HCM := Aside0.mk hcm
  have HKS := Aside0.mk hks
  have HOK := Aside0.mk hok
  have HG := Aside0.mk hg
  have HRM := Aside0.mk hrm
  have HBY := Aside0.mk hby
  have HCB := Aside0.mk hb
  have HCC := Aside0.mk hcb
  clear hm hcm hks hok hg hsm hrm hby hb hcb
  go_enter Tryd.func5, Tryd.ntmps5
  go_wp2_with (first | ((with_reducible refine gate_dst (N := 2) rfl ?_); refine box_event ?hg (N := 2) ?hd (cs := #[.slice Am m.length cm]) (t := 24) ?hr ?_; (case hd => rfl); (case hg => rfl); (case hr => first | (go_simp; done) | (go_simp; rfl)); intro gb2 hg w2 hbox hb; have BX2 := Aside0.mk hbox; have H0 := Aside0.mk hb; have HG2 := Aside0.mk hg; have HB := Aside0.mk (Below.refl w2.heap.size w2); clear hbox hb hg; have hx2_0 : w2.cell? ⟨gb2, 0, none⟩ = some (.slice Am m.length cm) := (blk_cell BX2.out 0).trans rfl))
  refine (up_any w2 (pw_cell_below H0.out HG.out)).mono ?_
  rintro e w4 ⟨rfl, hb⟩
  replace HB := Aside0.mk (below_step HB.out hb)
  clear hb hx2_0
  have hx2_0 := bx_cell BX2.out HB.out 0 (v := .slice Am m.length cm) rfl
  go_wp2_with (fail)
  refine (fettleref02_Small.calls ks Am cm m sm _ (Kd.C_below (Kd.C_below HM.out H0.out) HB.out) HCM.out HKS.out).mono ?_
  rintro e w5 ⟨rfl, hb⟩
  replace HB := Aside0.mk (below_step HB.out (by first | exact hb | exact hb.below))
  clear hb hx2_0
  cases sm with
  | false =>
    go_wp2
    go_ret
    exact ⟨rfl, below_step H0.out HB.out⟩
  | true =>
    have HOM := Aside0.mk (HOK.out rfl)
    clear HOK HKS
    by_cases cl : 4000 < bs.length
    · have d1 : decide ((4000 : Int) < (bs.length : Int)) = true := decide_eq_true (by omega)
      have d2 : decide (4000 < bs.length) = true := decide_eq_true cl
      clear cl
      go_wp2
      go_ret
      exact ⟨rfl, below_step H0.out HB.out⟩
    have d1 : decide ((4000 : Int) < (bs.length : Int)) = false := decide_eq_false (by omega)
    have d2 : decide (4000 < bs.length) = false := decide_eq_false cl
    have HL := Aside0.mk (show bs.length ≤ 100000000000 by omega)
    clear cl
    have hx2_0 := bx_cell BX2.out HB.out 0 (v := .slice Am m.length cm) rfl
    go_wp2_with (fail)
    refine (encode_any (w := w5) m HOM.out Am cm (Kd.C_below (Kd.C_below HM.out H0.out) HB.out) HCM.out).mono ?_
    rintro e w7 ⟨⟨va, ea, rfl, hea, hra, _⟩, hb⟩
    have HEA := Aside0.mk hea
    have HRA := Aside0.mk hra
    replace HB := Aside0.mk (below_step HB.out hb)
    clear hb hx2_0 hea hra
    have HZ7 := Aside0.mk (Below.refl w7.heap.size w7)
    cases hme : modE m with
    | some ac =>
      obtain ⟨a, c⟩ := ac
      have hv := HEA.out
      rw [hme] at hv
      clear hme HRA HEA
      rcases hv with ⟨_, rfl⟩ | ⟨_, g, _, rfl, _⟩
      all_goals
        go_wp2_with (fail)
        have HWZ := Aside0.mk (below_step HB.out HZ7.out)
        refine (decode_any bs Ab cb (Kd.C_below (Kd.C_below HCB.out H0.out) HWZ.out) HCC.out HBY.out HL.out).mono ?_
        rintro e wd ⟨⟨vd, ed, rfl, hed, hrd⟩, hb⟩
        have HWD := Aside0.mk (below_step HWZ.out hb)
        have HLAW := Aside0.mk (fun h => enc_dec HBY.out h)
        clear hb HWZ HZ7
        generalize dMod bs = D at hed hrd HLAW
        obtain ⟨nn, er⟩ := D
        dsimp only at hed hrd HLAW
        obtain ⟨Ad, cd, rfl⟩ := Kd.R_slice hrd
        have HRD := Aside0.mk hrd
        clear hrd
        cases er with
        | some ac =>
          obtain ⟨ax, cx⟩ := ac
          rcases hed with ⟨_, rfl⟩ | ⟨_, gd, _, rfl, _⟩
          all_goals
            go_wp2_with (fail)
            go_ret
            exact ⟨rfl, below_step H0.out (below_alloc HWD.out _)⟩
        | none =>
          obtain rfl : ed = .nilIface := hed
          obtain ⟨l1, l2, l3⟩ := HLAW.out rfl
          have HN := Aside0.mk (And.intro l2 (mod_of l2 (mod_q l3)).2)
          have HL1 := Aside0.mk l1
          clear l1 l2 l3
          go_wp2_with (fail)
          have hbz := below_alloc (Below.refl wd.heap.size wd) (.cells #[.slice Ad nn.length cd] 24)
          generalize wd.alloc (.cells #[.slice Ad nn.length cd] 24) = wz at hbz ⊢
          have HRZ := Aside0.mk (Kd.R_reads' (Kd.R_below HRD.out hbz))
          have HWY := Aside0.mk (below_step HWD.out hbz)
          clear hbz HRD
          refine (encode_any (w := wz) nn HN.out.2 Ad cd HRZ.out.2.2 HRZ.out.2.1).mono ?_
          rintro e wy ⟨⟨vy, ey, rfl, hey, hry, _⟩, hb⟩
          rw [HN.out.1] at hey
          obtain rfl : ey = .nilIface := hey
          have hry := hry HN.out.1
          rw [HL1.out] at hry
          obtain ⟨Ay, cy, rfl⟩ := Kd.R_slice hry
          have HWE := Aside0.mk (below_step HWY.out hb)
          have hc1 := conv_text hry
          have hc2 := conv_arg (c := cb) (Kd.C_below (Kd.C_below HCB.out H0.out) HWE.out) HBY.out bs.length (Nat.le_refl _)
          rw [List.take_length] at hc2
          generalize strOfNums bs = s at hc1 hc2
          have hs : (s.toList == s.toList) = true := beq_self_eq_true _
          clear hb hry
          go_wp2_with (fail)
          go_ret
          exact ⟨rfl, below_step H0.out HWE.out⟩
    | none =>
      have hv := HEA.out
      rw [hme] at hv
      obtain rfl : ea = .nilIface := hv
      have hra := HRA.out hme
      obtain ⟨Aa, ca, rfl⟩ := Kd.R_slice hra
      have hrr := Kd.R_reads' hra
      have HD := Aside0.mk (dec_enc (mod_of hme (mod_r HRM.out)).1 hme)
      clear hme HRA HEA hra
      go_wp2_with (fail)
      refine (decode_any (w := w7) (encMod m) Aa ca hrr.2.2 hrr.2.1 (mod_byte m) (by have := encMod_len HOM.out; omega)).mono ?_
      rintro e w8 ⟨⟨v8, e8, rfl, he8, hr8⟩, hb⟩
      rw [HD.out] at he8 hr8
      obtain rfl : e8 = .nilIface := he8
      obtain ⟨A8, c8, rfl⟩ := Kd.R_slice hr8
      have HR8 := Aside0.mk hr8
      replace HZ7 := Aside0.mk hb
      clear hb hrr hr8
      have HX2 := Aside0.mk (blk_below BX2.out (below_step HB.out HZ7.out))
      have hx2_0 : w8.cell? ⟨gb2, 0, none⟩ = some (.slice Am m.length cm) := (blk_cell HX2.out 0).trans rfl
      have hlt2 := blk_lt HX2.out
      have hb9 := below_alloc (Below.refl w8.heap.size w8) (.cells #[.slice A8 m.length c8] 24)
      go_wp2_with (fail)
      generalize w8.alloc (.cells #[.slice A8 m.length c8] 24) = w9 at hb9 ⊢
      have HR9 := Aside0.mk (Kd.R_reads' (Kd.R_below HR8.out hb9))
      replace HZ7 := Aside0.mk (below_step HZ7.out hb9)
      clear hb9 hx2_0
      refine (Says.yes (same_any (w := w9) m m A8 Am c8 cm HR9.out.2.2 (Kd.C_below (Kd.C_below HM.out H0.out) (below_step HB.out HZ7.out))) rfl).mono ?_
      rintro e w10 ⟨rfl, hb⟩
      replace HZ7 := Aside0.mk (below_step HZ7.out hb)
      clear hb
      go_wp2_with (fail)
      have HWZ := Aside0.mk (below_step HB.out HZ7.out)
      refine (decode_any bs Ab cb (Kd.C_below (Kd.C_below HCB.out H0.out) HWZ.out) HCC.out HBY.out HL.out).mono ?_
      rintro e wd ⟨⟨vd, ed, rfl, hed, hrd⟩, hb⟩
      have HWD := Aside0.mk (below_step HWZ.out hb)
      have HLAW := Aside0.mk (fun h => enc_dec HBY.out h)
      clear hb HWZ HZ7
      generalize dMod bs = D at hed hrd HLAW
      obtain ⟨nn, er⟩ := D
      dsimp only at hed hrd HLAW
      obtain ⟨Ad, cd, rfl⟩ := Kd.R_slice hrd
      have HRD := Aside0.mk hrd
      clear hrd
      cases er with
      | some ac =>
        obtain ⟨ax, cx⟩ := ac
        rcases hed with ⟨_, rfl⟩ | ⟨_, gd, _, rfl, _⟩
        all_goals
          go_wp2_with (fail)
          go_ret
          exact ⟨rfl, below_step H0.out (below_alloc HWD.out _)⟩
      | none =>
        obtain rfl : ed = .nilIface := hed
        obtain ⟨l1, l2, l3⟩ := HLAW.out rfl
        have HN := Aside0.mk (And.intro l2 (mod_of l2 (mod_q l3)).2)
        have HL1 := Aside0.mk l1
        clear l1 l2 l3
        go_wp2_with (fail)
        have hbz := below_alloc (Below.refl wd.heap.size wd) (.cells #[.slice Ad nn.length cd] 24)
        generalize wd.alloc (.cells #[.slice Ad nn.length cd] 24) = wz at hbz ⊢
        have HRZ := Aside0.mk (Kd.R_reads' (Kd.R_below HRD.out hbz))
        have HWY := Aside0.mk (below_step HWD.out hbz)
        clear hbz HRD
        refine (encode_any (w := wz) nn HN.out.2 Ad cd HRZ.out.2.2 HRZ.out.2.1).mono ?_
        rintro e wy ⟨⟨vy, ey, rfl, hey, hry, _⟩, hb⟩
        rw [HN.out.1] at hey
        obtain rfl : ey = .nilIface := hey
        have hry := hry HN.out.1
        rw [HL1.out] at hry
        obtain ⟨Ay, cy, rfl⟩ := Kd.R_slice hry
        have HWE := Aside0.mk (below_step HWY.out hb)
        have hc1 := conv_text hry
        have hc2 := conv_arg (c := cb) (Kd.C_below (Kd.C_below HCB.out H0.out) HWE.out) HBY.out bs.length (Nat.le_refl _)
        rw [List.take_length] at hc2
        generalize strOfNums bs = s at hc1 hc2
        have hs : (s.toList == s.toList) = true := beq_self_eq_true _
        clear hb hry
        go_wp2_with (fail)
        go_ret
        exact ⟨rfl, below_step H0.out HWE.out⟩
end Go.Proofs.YtckebppacealeaaDoor.Rk
