/- CodeStays: whatever the module and the bytes, the law returns true. Conditions: numbers of 64 bits with a sign, bytes; errors.errorType holds the handle of error. -/
import Derived.Test.YtckebppacealeaaDoorVb
import Derived.Test.YtckebppacealeaaDoorMd
namespace Go.Proofs.YtckebppacealeaaDoor.Rk
open Go.RowKit Go.Proofs.YtckebppacealeaaDoorW.PrintWords Go.Proofs.YtckebppacealeaaDoorW.PrintLast Go.Proofs.YtckebppacealeaaDoorW.PrintMore Go.Proofs.YtckebppacealeaaDoorW.PrintWords.Kd Go.Proofs.YtckebppacealeaaDoor.PCodeUnlike Go.Proofs.YtckebppacealeaaDoor.Lp Go.Proofs.YtckebppacealeaaDoor.Lk Go.Proofs.YtckebppacealeaaDoor.Lr
attribute [local go_sem] max2_int min2_int max_two min_two max_three min_three max_four min_four
set_option linter.unusedVariables false
set_option linter.unusedSimpArgs false
variable {w w1 : World}
theorem nil_run {b : Nat} {r : Option (Int × Int)} {v : Value} (h : IsErr w b r v) : (∀ (x : Operand) (W : World), Sem.run Tryd.prog (eqGuard .eql 29 x (.const .nilIface) v .nilIface) W = Result.ok () W) ∧ ∀ W : World, Sem.run Tryd.prog (binOp .eql 29 v .nilIface) W = Result.ok (.bool r.isNone) W := by
  match r, h with
  | none, h =>
    obtain rfl : v = .nilIface := h
    refine ⟨fun x W => ?_, fun W => ?_⟩
    · simp [eqGuard, go_sem]
    · go_simp
  | some (a, c), .inl ⟨_, h⟩ =>
    subst h
    refine ⟨fun x W => ?_, fun W => ?_⟩
    · simp [eqGuard, go_sem]
    · go_simp
  | some (a, c), .inr ⟨_, g, _, h, _⟩ =>
    subst h
    refine ⟨fun x W => ?_, fun W => ?_⟩
    · simp [eqGuard, go_sem]
    · go_simp
/-- What Encode gives, whatever is amiss. -/
def encOr (m : List Lk.Fn) : List Int := if modE m = none then encMod m else []
theorem encode_or (m : List Lk.Fn) (ok : OkM m) (Am : Option Addr) (cm : Nat) (hm : Kd.C k50 w Am m.length m) (hcm : m.length ≤ cm) :
    Calls Tryd.prog 11 #[.agg #[.slice Am m.length cm]] w fun e w' => (∃ v ev, e = .returned (.tuple #[v, ev]) ∧ IsErr w' w.heap.size (modE m) ev ∧ Kd.R (Kd.int .u8) 5 w' w.heap.size (fun _ => True) v (encOr m)) ∧ Below w.heap.size w w' := by
  refine (encode_any m ok Am cm hm hcm).mono ?_
  rintro e w2 ⟨⟨v, ev, he, hE, hR, hN⟩, hb⟩
  refine ⟨⟨v, ev, he, hE, ?_⟩, hb⟩
  unfold encOr
  by_cases h : modE m = none
  · rw [if_pos h]; exact hR h
  · rw [if_neg h, hN h]; exact R_nil _ _ _ _ _
theorem encOr_byte (m : List Lk.Fn) : ∀ a ∈ encOr m, Byte a := by
  unfold encOr
  split
  · exact mod_byte m
  · intro a ha; exact absurd ha List.not_mem_nil
theorem encOr_len {m : List Lk.Fn} (h : OkM m) : (encOr m).length ≤ 10000000000 := by
  unfold encOr
  split
  · exact encMod_len h
  · exact Nat.zero_le _
set_option maxHeartbeats 16000000 in
set_option maxRecDepth 100000 in
theorem stays_any (m : List Lk.Fn) (hrm : ∀ f ∈ m, RFunc f) (Am : Option Addr) (cm : Nat) (hm : Kd.C k50 w Am m.length m) (hcm : m.length ≤ cm) (bs : List Int) (hby : ∀ a ∈ bs, Byte a) (Ab : Option Addr) (cb : Nat) (hb : Kd.C (Kd.int .u8) w Ab bs.length bs) (hcb : bs.length ≤ cb)
    (hg : w.cell? ⟨0, 0, none⟩ = some (.iface 130 (.agg #[.pointer (some ⟨1, 29, none⟩)]))) :
    Calls Tryd.prog 7 #[.agg #[.slice Am m.length cm], .slice Ab bs.length cb] w fun e w' => e = .returned (.bool true) ∧ Below w.heap.size w w' := by
  obtain ⟨sm, hsm, hok⟩ := small_mod m
  obtain ⟨ks, hks⟩ := hsm.rounds
  have HM := Aside0.mk hm
  have HCM := Aside0.mk hcm
  have HKS := Aside0.mk hks
  have HOK := Aside0.mk hok
  have HG := Aside0.mk hg
  have HRM := Aside0.mk hrm
  have HBY := Aside0.mk hby
  have HCB := Aside0.mk hb
  have HCC := Aside0.mk hcb
  clear hm hcm hks hok hg hsm hrm hby hb hcb
  go_enter Tryd.func7, Tryd.ntmps7
  go_wp2_with (first | ((with_reducible refine gate_dst (N := 2) rfl ?_); refine box_event ?hg (N := 2) ?hd (cs := #[.slice Am m.length cm]) (t := 24) ?hr ?_; (case hd => rfl); (case hg => rfl); (case hr => first | (go_simp; done) | (go_simp; rfl)); intro gb2 hg w2 hbox hb; have BX2 := Aside0.mk hbox; have H0 := Aside0.mk hb; have HG2 := Aside0.mk hg; have HB := Aside0.mk (Below.refl w2.heap.size w2); clear hbox hb hg; have hx2_0 : w2.cell? ⟨gb2, 0, none⟩ = some (.slice Am m.length cm) := (blk_cell BX2.out 0).trans rfl))
  refine (up_any w2 (pw_cell_below H0.out HG.out)).mono ?_
  rintro e w4 ⟨rfl, hb⟩
  replace HB := Aside0.mk (below_step HB.out hb)
  clear hb hx2_0
  have hx2_0 := bx_cell BX2.out HB.out 0 (v := .slice Am m.length cm) rfl
  go_wp2_with (fail)
  refine (fettleref02_Small.calls ks Am cm m sm _ (Kd.C_below (Kd.C_below HM.out H0.out) HB.out) HCM.out HKS.out).mono ?_
  rintro e w5 ⟨rfl, hb⟩
  replace HB := Aside0.mk (below_step HB.out (by first | exact hb | exact hb.below))
  clear hb hx2_0
  cases sm with
  | false =>
    go_wp2
    go_ret
    exact ⟨rfl, below_step H0.out HB.out⟩
  | true =>
    have HOM := Aside0.mk (HOK.out rfl)
    clear HOK HKS
    by_cases cl : 4000 < bs.length
    · have d1 : decide ((4000 : Int) < (bs.length : Int)) = true := decide_eq_true (by omega)
      have d2 : decide (4000 < bs.length) = true := decide_eq_true cl
      clear cl
      go_wp2
      go_ret
      exact ⟨rfl, below_step H0.out HB.out⟩
    have d1 : decide ((4000 : Int) < (bs.length : Int)) = false := decide_eq_false (by omega)
    have d2 : decide (4000 < bs.length) = false := decide_eq_false cl
    have HL := Aside0.mk (show bs.length ≤ 100000000000 by omega)
    clear cl
    have hx2_0 := bx_cell BX2.out HB.out 0 (v := .slice Am m.length cm) rfl
    go_wp2_with (fail)
    refine (copy_any (w := w5) m HOM.out Am cm (Kd.C_below (Kd.C_below HM.out H0.out) HB.out) HCM.out).mono ?_
    rintro e w6 ⟨⟨vo, rfl, hro⟩, hb⟩
    obtain ⟨Ao, co, rfl⟩ := Kd.R_slice hro
    replace HB := Aside0.mk (below_step HB.out hb)
    clear hb hx2_0
    go_wp2_with (fail)
    have hb7 := below_alloc (Below.refl w6.heap.size w6) (.cells #[.slice Ao m.length co] 24)
    have hx7 := blk_new w6 (.cells #[.slice Ao m.length co] 24)
    generalize w6.alloc (.cells #[.slice Ao m.length co] 24) = w7 at hb7 hx7 ⊢
    generalize w6.heap.size = g7 at hx7 ⊢
    have hr7 := Kd.R_below hro hb7
    replace HB := Aside0.mk (below_step HB.out hb7)
    have HSZ := Aside0.mk HB.out.size
    have HRO := Aside0.mk (Kd.R_reads' hr7)
    have HX7 := Aside0.mk hx7
    clear hb7 hx7 hr7 hro
    refine (encode_or (w := w7) m HOM.out Ao co HRO.out.2.2 HRO.out.2.1).mono ?_
    rintro e w8 ⟨⟨va, ea, rfl, hea, hra⟩, hb⟩
    have hbe := encOr_byte m
    have hle := encOr_len HOM.out
    obtain ⟨be, hbb⟩ : ∃ be, be = encOr m := ⟨_, rfl⟩
    rw [← hbb] at hra hbe hle
    have HBE := Aside0.mk hbb
    have HBEB := Aside0.mk hbe
    have HLE := Aside0.mk hle
    obtain ⟨Aa, ca, rfl⟩ := Kd.R_slice hra
    have HRA := Aside0.mk hra
    have HEA := Aside0.mk (nil_run hea)
    replace HB := Aside0.mk (below_step HB.out hb)
    replace HX7 := Aside0.mk (blk_below HX7.out hb)
    have HRO8 := Aside0.mk (Kd.C_below HRO.out.2.2 hb)
    clear hb hra hea hbb hbe hle
    have BX8 := Aside0.mk (blk_below BX2.out HB.out)
    have hx2_0 := bx_cell BX2.out HB.out 0 (v := .slice Am m.length cm) rfl
    have hx7_0 : w8.cell? ⟨g7, 0, none⟩ = some (.slice Ao m.length co) := (blk_cell HX7.out 0).trans rfl
    go_wp2_with (fail)
    refine (Says.yes (same_any (w := w8) m m Ao Am co cm HRO8.out (Kd.C_below (Kd.C_below HM.out H0.out) HB.out)) rfl).mono ?_
    rintro e w9 ⟨rfl, hb⟩
    replace HB := Aside0.mk (below_step HB.out hb)
    have hra9 := Kd.R_below HRA.out hb
    have HRA9 := Aside0.mk hra9
    have hcv := conv_text hra9
    generalize hst : strOfNums be = s at hcv
    have HST := Aside0.mk hst
    clear hb hx2_0 hx7_0 HRA HRO8 HRO HX7 BX8 hra9 hst
    go_wp2_with (fail)
    go_loopw [11] (fun vi wr => ∃ (i : Nat) (L : List Int), i ≤ be.length ∧ vi = .int .i64 i ∧ Aside0 (L.length = be.length) ∧ Aside0 (Kd.R (Kd.int .u8) 5 wr w7.heap.size (fun _ => True) (.slice Aa be.length ca) L) ∧ Aside0 (Kept w9 wr (fun k => some k = (Value.slice Aa be.length ca).ownBlock)) ∧ Aside0 (Below w2.heap.size w2 wr)) (fun vi _ => be.length - (intOf vi).toNat)
    case atStart => exact ⟨0, _, Nat.zero_le _, rfl, ⟨rfl⟩, HRA9, ⟨Kept.refl _ _⟩, HB⟩
    case round =>
      clear HB
      obtain ⟨i, L, hi, rfl, HLL, HRL, HKL, HB⟩ := hrel
      by_cases hlt : i < be.length
      · have e0 : decide ((i : Int) < (be.length : Int)) = true := decide_eq_true (by omega)
        have e1 : decide (i < be.length) = true := decide_eq_true hlt
        have p1 := eq_true (show 0 ≤ (i : Int) by omega)
        have q1 := eq_true (show (i : Int) < (be.length : Int) by omega)
        obtain ⟨ad, cs, rfl, _⟩ := Kd.C_get (Kd.R_reads' HRL.out).2.2 (0 : Int) (i : Int) (by omega) (by have := HLL.out; omega)
        obtain ⟨g, rfl⟩ := Kd.R_head HRL.out
        have hoc := own_at_of (d := (0 : Int)) (Kd.own_of_R (show Kd.R (Kd.int .u8) 5 wr w7.heap.size (fun _ => True) (.slice (some ⟨g, 0, none⟩) L.length ca) L by rw [HLL.out]; exact HRL.out)) (i : Int) (by omega) (by have := HLL.out; omega)
        rw [Int.toNat_natCast] at hoc
        obtain ⟨hc, hf⟩ := hoc
        have HGE := Aside0.mk (Kd.R_base HRL.out g rfl)
        have HLT := Aside0.mk hlt
        have hw : wrap64 ((i : Int) + 1) = ((i + 1 : Nat) : Int) := by have := HLE.out; unfold wrap64; omega
        clear hlt hi
        go_wp2
        go_roundw
        case rel =>
          exact ⟨i + 1, _, HLT.out, by simp only [hw], ⟨(List.length_set ..).trans HLL.out⟩, ⟨Kd.R_putn (e := 5) HRL.out (i : Int) _⟩, ⟨Kept.setCell HKL.out (p := ⟨g, i, none⟩) (.inl rfl) _⟩, ⟨HB.out.setCell (show w2.heap.size ≤ g from Nat.le_trans HSZ.out HGE.out) _⟩⟩
        case measure => rw [hw]; exact Nat.sub_lt_sub_left HLT.out (Nat.lt_succ_self i)
      · have e0 : decide ((i : Int) < (be.length : Int)) = false := decide_eq_false (by omega)
        have e1 : decide (i < be.length) = false := decide_eq_false hlt
        clear hi hlt
        have hx2_0 := bx_cell BX2.out HB.out 0 (v := .slice Am m.length cm) rfl
        go_wp2_with (fail)
        refine (encode_or (w := wr) m HOM.out Am cm (Kd.C_below (Kd.C_below HM.out H0.out) HB.out) HCM.out).mono ?_
        rintro e w10 ⟨⟨vy, ey, rfl, hey, hry⟩, hb⟩
        rw [← HBE.out] at hry
        obtain ⟨Ay, cy, rfl⟩ := Kd.R_slice hry
        have HRY := Aside0.mk (Kd.R_bound hry)
        have HEY := Aside0.mk (nil_run hey)
        replace HB := Aside0.mk (below_step HB.out hb)
        have HSZ2 := Aside0.mk HB.out.size
        clear hb hry hey hx2_0 HKL HRL HLL
        go_wp2_with (first
          | ((with_reducible refine gate_builtin (b := .append) (xs := #[.tmp 64, .tmp 65]) rfl ?_); at_builtin; refine Kd.R_append_rows (Kd.int .u8) (w0 := w10) (W := w10.alloc (.cells #[] 5)) w10.heap.size rfl (.tmp 64) (.tmp 65) 27 5 (.int .u8 0) 1 rfl Tryd.underlying27 info5 rfl (by decide) (by omega) (.slice (some ⟨w10.heap.size, 0, none⟩) 0 0) [] bs Ab bs.length cb (fun _ => True) (fun _ => False) rfl rfl ?aO ?aR (fun _ _ h => h) (fun _ h => h.elim) (fun _ _ => trivial) ?aB ?aS ?aL ?_; (case aO => exact R_none w10 w10.heap.size _ (Nat.le_refl _) trivial); (case aR => exact Kd.C_below (Kd.C_below HCB.out H0.out) (below_alloc HB.out _)); (case aB => exact below_alloc (Below.refl _ _) _); (case aS => exact (below_alloc (Below.refl w10.heap.size w10) _).size); (case aL => have := HL.out; simp; omega); intro v11 w11 ho hb hg hat; rw [List.nil_append] at ho; obtain ⟨A11, c11, rfl⟩ := Kd.R_slice ho; have HR11 := Aside0.mk ho; have HB11 := Aside0.mk hb; clear ho hb hg hat))
        have hrr := Kd.R_reads' HR11.out
        refine (decode_any bs A11 c11 hrr.2.2 hrr.2.1 HBY.out HL.out).mono ?_
        rintro e w12 ⟨⟨vu, eu, rfl, heu, hru⟩, hb⟩
        have HLT11 := Aside0.mk (Kd.R_lt HR11.out)
        obtain ⟨D, hD⟩ : ∃ D, D = dMod bs := ⟨_, rfl⟩
        rw [← hD] at heu hru
        have HD := Aside0.mk hD
        obtain ⟨ld, er⟩ := D
        dsimp only at heu hru
        obtain ⟨Au, cu, rfl⟩ := Kd.R_slice hru
        have HGU := Aside0.mk (nil_run heu)
        have hru2 := Kd.R_bound hru
        have hb13 := below_alloc (Below.refl w12.heap.size w12) (.cells #[.slice Au ld.length cu] 24)
        have hx13 := blk_new w12 (.cells #[.slice Au ld.length cu] 24)
        have HB12 := Aside0.mk hb
        clear hb heu hru hD hrr
        go_upto_region 17 with (fail)
        generalize w12.alloc (.cells #[.slice Au ld.length cu] 24) = w13 at hb13 hx13 ⊢
        have HG15 := Aside0.mk (show w11.heap.size ≤ w12.heap.size from HB12.out.size)
        generalize w12.heap.size = g15 at hx13 HG15 ⊢
        have HRU := Aside0.mk (Kd.R_below hru2 hb13)
        have HX15 := Aside0.mk hx13
        have HR13 := Aside0.mk (Kd.R_below HR11.out (below_step HB12.out hb13))
        replace HRY := Aside0.mk (Kd.R_below HRY.out (below_step HB11.out (below_step HB12.out hb13)))
        have HGE11 := Aside0.mk (Kd.R_base HR13.out)
        replace HB := Aside0.mk (below_step HB.out (below_step HB11.out (below_step HB12.out hb13)))
        clear hru2 hb13 hx13 HR11
        have hc1 := conv_text HR13.out
        have hc2 := conv_arg (c := cb) (Kd.C_below (Kd.C_below HCB.out H0.out) HB.out) HBY.out bs.length (Nat.le_refl _)
        rw [List.take_length] at hc2
        generalize strOfNums bs = sb at hc1 hc2
        have hsb : (sb.toList == sb.toList) = true := beq_self_eq_true _
        go_wp2_with (fail)
        clear hc1 hc2 hsb
        go_loopw [18] (fun vi wr => ∃ (i : Nat) (L : List Int), i ≤ bs.length ∧ vi = .int .i64 i ∧ Aside0 (L.length = bs.length) ∧ Aside0 (Kd.R (Kd.int .u8) 5 wr w10.heap.size (fun _ => True) (.slice A11 bs.length c11) L) ∧ Aside0 (Kept w13 wr (fun k => some k = (Value.slice A11 bs.length c11).ownBlock)) ∧ Aside0 (Below w2.heap.size w2 wr)) (fun vi _ => bs.length - (intOf vi).toNat)
        case atStart => exact ⟨0, _, Nat.zero_le _, rfl, ⟨rfl⟩, HR13, ⟨Kept.refl _ _⟩, HB⟩
        case round =>
          clear HB
          obtain ⟨i, L, hi, rfl, HLL, HRL, HKL, HB⟩ := hrel
          by_cases hlt : i < bs.length
          · have e0 : decide ((i : Int) < (bs.length : Int)) = true := decide_eq_true (by omega)
            have e1 : decide (i < bs.length) = true := decide_eq_true hlt
            have p1 := eq_true (show 0 ≤ (i : Int) by omega)
            have q1 := eq_true (show (i : Int) < (bs.length : Int) by omega)
            obtain ⟨ad, cs, rfl, _⟩ := Kd.C_get (Kd.R_reads' HRL.out).2.2 (0 : Int) (i : Int) (by omega) (by have := HLL.out; omega)
            obtain ⟨g, rfl⟩ := Kd.R_head HRL.out
            have hoc := own_at_of (d := (0 : Int)) (Kd.own_of_R (show Kd.R (Kd.int .u8) 5 wr w10.heap.size (fun _ => True) (.slice (some ⟨g, 0, none⟩) L.length c11) L by rw [HLL.out]; exact HRL.out)) (i : Int) (by omega) (by have := HLL.out; omega)
            rw [Int.toNat_natCast] at hoc
            obtain ⟨hc, hf⟩ := hoc
            have HGE := Aside0.mk (Kd.R_base HRL.out g rfl)
            have HLT := Aside0.mk hlt
            have hw : wrap64 ((i : Int) + 1) = ((i + 1 : Nat) : Int) := by have := HL.out; unfold wrap64; omega
            clear hlt hi
            go_wp2
            go_roundw
            case rel =>
              exact ⟨i + 1, _, HLT.out, by simp only [hw], ⟨(List.length_set ..).trans HLL.out⟩, ⟨Kd.R_putn (e := 5) HRL.out (i : Int) _⟩, ⟨Kept.setCell HKL.out (p := ⟨g, i, none⟩) (.inl rfl) _⟩, ⟨HB.out.setCell (show w2.heap.size ≤ g from Nat.le_trans HSZ2.out HGE.out) _⟩⟩
            case measure => rw [hw]; exact Nat.sub_lt_sub_left HLT.out (Nat.lt_succ_self i)
          · have e0 : decide ((i : Int) < (bs.length : Int)) = false := decide_eq_false (by omega)
            have e1 : decide (i < bs.length) = false := decide_eq_false hlt
            clear hi hlt
            go_wp2_with (fail)
            refine (decode_any (w := wr) bs Ab cb (Kd.C_below (Kd.C_below HCB.out H0.out) HB.out) HCC.out HBY.out HL.out).mono ?_
            rintro e w14 ⟨⟨vv, ev, rfl, hev, hrv⟩, hb⟩
            rw [← HD.out] at hev hrv
            dsimp only at hev hrv
            obtain ⟨Av, cv, rfl⟩ := Kd.R_slice hrv
            have HGV := Aside0.mk (nil_run hev)
            have hru := R_step HRU.out (fun k hk hlt => HKL.out.2 k hlt (fun e => Nat.lt_irrefl k (Nat.lt_of_lt_of_le (HLT11.out k e.symm) hk.2.1)))
            have hx15 := (HKL.out.2 g15 (blk_lt HX15.out) (fun e => Nat.lt_irrefl g15 (Nat.lt_of_lt_of_le (HLT11.out g15 e.symm) HG15.out))).trans HX15.out
            have hb15 := below_alloc (Below.refl w14.heap.size w14) (.cells #[.slice Av ld.length cv] 24)
            have hx19 := blk_new w14 (.cells #[.slice Av ld.length cv] 24)
            go_upto_region 23 with (fail)
            generalize w14.alloc (.cells #[.slice Av ld.length cv] 24) = w15 at hb15 hx19 ⊢
            generalize w14.heap.size = g19 at hx19 ⊢
            have hbb := below_step hb hb15
            have HUV := Aside0.mk (And.intro (Kd.R_reads' (Kd.R_below hru hbb)).2.2 (Kd.R_reads' (Kd.R_below hrv hb15)).2.2)
            have hry := R_step HRY.out (fun k hk hlt => HKL.out.2 k hlt (fun e => Nat.lt_irrefl k (Nat.lt_of_lt_of_le hk.2.2.1 (HGE11.out k e.symm))))
            have HY15 := Aside0.mk (Kd.R_below hry hbb)
            have HX15' := Aside0.mk (blk_below hx15 hbb)
            have HX19 := Aside0.mk hx19
            replace HB := Aside0.mk (below_step HB.out hbb)
            have K2 := Aside0.mk (show ∀ W, Below w15.heap.size w15 W → W.cell? ⟨g15, 0, none⟩ = some (.slice Au ld.length cu) ∧ W.cell? ⟨g19, 0, none⟩ = some (.slice Av ld.length cv) ∧ (Go.convert 27 9 (.slice Ay be.length cy)).run Tryd.prog W = .ok (.string s) W from
              fun W hW => ⟨(blk_cell (blk_below HX15'.out hW) 0).trans rfl, (blk_cell (blk_below HX19.out hW) 0).trans rfl, by rw [← HST.out]; exact conv_text (Kd.R_below HY15.out hW)⟩)
            have HB9 := Aside0.mk (Below.refl w15.heap.size w15)
            have hss : (s.toList == s.toList) = true := beq_self_eq_true _
            have hq1 := HEA.out.1
            have hq2 := HEA.out.2
            have hq3 := HEY.out.1
            have hq4 := HEY.out.2
            have hq5 := HGU.out.1
            have hq6 := HGU.out.2
            have hq7 := HGV.out.1
            have hq8 := HGV.out.2
            have hb1 : ((modE m).isNone == (modE m).isNone) = true := beq_self_eq_true _
            have hb2 : (er.isNone == er.isNone) = true := beq_self_eq_true _
            generalize (modE m).isNone = bm at hq2 hq4 hb1
            generalize er.isNone = bn at hq6 hq8 hb2
            clear hb15 hx19 hbb hru hrv hry hx15 hb hev
            go_region_held3 (fun W => W.cell? ⟨g15, 0, none⟩ = some (.slice Au ld.length cu) ∧ W.cell? ⟨g19, 0, none⟩ = some (.slice Av ld.length cv) ∧ (Go.convert 27 9 (.slice Ay be.length cy)).run Tryd.prog W = .ok (.string s) W)
              (exact K2.out _ (by repeat (with_reducible first | exact HB9.out | apply below_alloc | apply pw_below_drewN | apply below_drew1)))
              (first | (go_at_call 17; refine (Says.yes (same_any ld ld Au Av cu cv (Kd.C_below HUV.out.1 (by repeat (with_reducible first | exact HB9.out | apply below_alloc | apply pw_below_drewN | apply below_drew1))) (Kd.C_below HUV.out.2 (by repeat (with_reducible first | exact HB9.out | apply below_alloc | apply pw_below_drewN | apply below_drew1)))) rfl).mono ?_; rintro e w20 ⟨rfl, hb⟩; replace HB9 := Aside0.mk (below_step (by repeat (with_reducible first | exact HB9.out | apply below_alloc | apply pw_below_drewN | apply below_drew1)) hb); clear hb))
            all_goals
              go_wp2
              go_ret
              exact ⟨by first | rfl | (simp [hss]; done), below_step H0.out (below_step HB.out HB9.out)⟩
end Go.Proofs.YtckebppacealeaaDoor.Rk
