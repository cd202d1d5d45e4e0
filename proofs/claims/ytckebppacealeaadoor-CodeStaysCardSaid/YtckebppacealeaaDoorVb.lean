/- CodeWhole: whatever the module, the number and the bytes, the law returns true. Conditions: numbers of 64 bits with a sign, bytes; errors.errorType holds the handle of error. -/
import Derived.Test.YtckebppacealeaaDoorVa
namespace Go.Proofs.YtckebppacealeaaDoor.Rk
open Go.RowKit Go.Proofs.YtckebppacealeaaDoorW.PrintWords Go.Proofs.YtckebppacealeaaDoorW.PrintLast Go.Proofs.YtckebppacealeaaDoorW.PrintMore Go.Proofs.YtckebppacealeaaDoorW.PrintWords.Kd Go.Proofs.YtckebppacealeaaDoor.PCodeUnlike Go.Proofs.YtckebppacealeaaDoor.Lp Go.Proofs.YtckebppacealeaaDoor.Lk Go.Proofs.YtckebppacealeaaDoor.Lr
attribute [local go_sem] max2_int min2_int max_two min_two max_three min_three max_four min_four
set_option linter.unusedVariables false
set_option linter.unusedSimpArgs false
variable {w w1 : World}
theorem prefix_mod {m m' : List Lk.Fn} {r : List Int} (hq : QMod m) (hq' : QMod m') (h : encMod m' ++ r = encMod m) : r = [] := by
  have e0 : ∀ m : List Lk.Fn, encMod m = [102, 116, 108, 49] ++ (numE (m64 m.length) ++ m.flatMap encFunc) := fun m => by unfold encMod; rw [List.append_assoc]
  have e2 : (encMod m).drop 4 = (numE (m64 m.length) ++ m.flatMap encFunc) ++ [] := by rw [e0, List.append_nil]; rfl
  have e3 : (encMod m).drop 4 = (numE (m64 m'.length) ++ m'.flatMap encFunc) ++ r := by rw [← h, e0]; rfl
  have h1 := (rds_mod (bs := encMod m) (mod_byte m)).forth 4 m [] hq e2
  have h2 := (rds_mod (bs := encMod m) (mod_byte m)).forth 4 m' r hq' e3
  have h3 := (Prod.mk.inj (h1.symm.trans h2)).1
  subst h3
  have h4 := congrArg List.length h
  rw [List.length_append] at h4
  exact List.eq_nil_of_length_eq_zero (by omega)
theorem begin_bad {m : List Lk.Fn} (hq : QMod m) {n : Nat} (hn : n < (encMod m).length) : (dMod ((encMod m).take n)).2 ≠ none := fun h => by
  obtain ⟨h1, _, h3⟩ := enc_dec (bs := (encMod m).take n) (fun a ha => mod_byte m a (List.mem_of_mem_take ha)) h
  have h4 := prefix_mod hq h3 (r := (encMod m).drop n) (by rw [h1]; exact List.take_append_drop _ _)
  have h5 := congrArg List.length h4
  rw [List.length_drop] at h5
  simp at h5
  omega
theorem more_bad {m : List Lk.Fn} (hq : QMod m) {l : List Int} (hby : ∀ a ∈ l, Byte a) (hl : l ≠ []) : (dMod (encMod m ++ l)).2 ≠ none := fun h => by
  obtain ⟨h1, _, h3⟩ := enc_dec (bs := encMod m ++ l) (app_byte (mod_byte m) hby) h
  exact hl (prefix_mod h3 hq h1.symm)
theorem R_none (W : World) (base : Nat) (ok : Nat → Prop) (hb : base ≤ W.heap.size) (hok : ok W.heap.size) : Kd.R (Kd.int .u8) 5 (W.alloc (.cells #[] 5)) base ok (.slice (some ⟨W.heap.size, 0, none⟩) 0 0) [] :=
  ⟨fun k hk => by have : W.heap.size = k := by simpa [Value.ownBlock] using hk
                  subst this; exact hok, OwnRow.lit W base (ps := []) (inner := []) ⟨rfl, fun j p h => by simp at h⟩ hb (by simp)⟩
theorem encMod_pos (m : List Lk.Fn) : 4 ≤ (encMod m).length := by
  unfold encMod
  simp only [List.length_append, List.length_cons, List.length_nil]
  omega
theorem decode_at (bs : List Int) (n : Nat) (hn : bs.length = n) (A : Option Addr) (c : Nat) (hC : Kd.C (Kd.int .u8) w A bs.length bs) (hcc : bs.length ≤ c) (hby : ∀ a ∈ bs, Byte a) (hl : bs.length ≤ 100000000000) :
    Calls Tryd.prog 15 #[.slice A n c] w fun e w' => (∃ v ev, e = .returned (.tuple #[.agg #[v], ev]) ∧ IsErr w' w.heap.size (dMod bs).2 ev ∧ Kd.R k50 50 w' w.heap.size (fun _ => True) v (dMod bs).1) ∧ Below w.heap.size w w' := by
  subst hn
  exact decode_any bs A c hC hcc hby hl
set_option maxHeartbeats 16000000 in
set_option maxRecDepth 100000 in
theorem whole_any (m : List Lk.Fn) (hrm : ∀ f ∈ m, RFunc f) (Am : Option Addr) (cm : Nat) (hm : Kd.C k50 w Am m.length m) (hcm : m.length ≤ cm) (n : Int) (hn0 : -9223372036854775808 ≤ n) (hn1 : n < 9223372036854775808) (bs : List Int) (hby : ∀ a ∈ bs, Byte a) (Ab : Option Addr) (cb : Nat) (hb : Kd.C (Kd.int .u8) w Ab bs.length bs) (hcb : bs.length ≤ cb)
    (hg : w.cell? ⟨0, 0, none⟩ = some (.iface 130 (.agg #[.pointer (some ⟨1, 29, none⟩)]))) :
    Calls Tryd.prog 6 #[.agg #[.slice Am m.length cm], .int .i64 n, .slice Ab bs.length cb] w fun e w' => e = .returned (.bool true) ∧ Below w.heap.size w w' := by
  obtain ⟨sm, hsm, hok⟩ := small_mod m
  obtain ⟨ks, hks⟩ := hsm.rounds
  have HM := Aside0.mk hm
  have HCM := Aside0.mk hcm
  have HKS := Aside0.mk hks
  have HOK := Aside0.mk hok
  have HG := Aside0.mk hg
  have HRM := Aside0.mk hrm
  have HBY := Aside0.mk hby
  have HCB := Aside0.mk hb
  have HCC := Aside0.mk hcb
  have HN := Aside0.mk (And.intro hn0 hn1)
  clear hm hcm hks hok hg hsm hrm hby hb hcb hn0 hn1
  go_enter Tryd.func6, Tryd.ntmps6
  go_wp2_with (first | ((with_reducible refine gate_dst (N := 3) rfl ?_); refine box_event ?hg (N := 3) ?hd (cs := #[.slice Am m.length cm]) (t := 24) ?hr ?_; (case hd => rfl); (case hg => rfl); (case hr => first | (go_simp; done) | (go_simp; rfl)); intro gb3 hg w2 hbox hb; have BX3 := Aside0.mk hbox; have H0 := Aside0.mk hb; have HG3 := Aside0.mk hg; have HB := Aside0.mk (Below.refl w2.heap.size w2); clear hbox hb hg; have hx3_0 : w2.cell? ⟨gb3, 0, none⟩ = some (.slice Am m.length cm) := (blk_cell BX3.out 0).trans rfl))
  refine (up_any w2 (pw_cell_below H0.out HG.out)).mono ?_
  rintro e w4 ⟨rfl, hb⟩
  replace HB := Aside0.mk (below_step HB.out hb)
  clear hb hx3_0
  have hx3_0 := bx_cell BX3.out HB.out 0 (v := .slice Am m.length cm) rfl
  go_wp2_with (fail)
  refine (fettleref02_Small.calls ks Am cm m sm _ (Kd.C_below (Kd.C_below HM.out H0.out) HB.out) HCM.out HKS.out).mono ?_
  rintro e w5 ⟨rfl, hb⟩
  replace HB := Aside0.mk (below_step HB.out (by first | exact hb | exact hb.below))
  clear hb hx3_0
  cases sm with
  | false =>
    go_wp2
    go_ret
    exact ⟨rfl, below_step H0.out HB.out⟩
  | true =>
    have HOM := Aside0.mk (HOK.out rfl)
    clear HOK HKS
    by_cases cl : 1000 < bs.length
    · have d1 : decide ((1000 : Int) < (bs.length : Int)) = true := decide_eq_true (by omega)
      have d2 : decide (1000 < bs.length) = true := decide_eq_true cl
      clear cl
      go_wp2
      go_ret
      exact ⟨rfl, below_step H0.out HB.out⟩
    have d1 : decide ((1000 : Int) < (bs.length : Int)) = false := decide_eq_false (by omega)
    have d2 : decide (1000 < bs.length) = false := decide_eq_false cl
    have HL := Aside0.mk (show bs.length ≤ 1000 by omega)
    clear cl
    have hx3_0 := bx_cell BX3.out HB.out 0 (v := .slice Am m.length cm) rfl
    go_wp2_with (fail)
    refine (encode_any (w := w5) m HOM.out Am cm (Kd.C_below (Kd.C_below HM.out H0.out) HB.out) HCM.out).mono ?_
    rintro e w7 ⟨⟨va, ea, rfl, hea, hra, _⟩, hb⟩
    have HEA := Aside0.mk hea
    have HRA := Aside0.mk hra
    replace HB := Aside0.mk (below_step HB.out hb)
    clear hb hx3_0 hea hra
    cases hme : modE m with
    | some ac =>
      obtain ⟨a, c⟩ := ac
      have hv := HEA.out
      rw [hme] at hv
      clear hme HRA HEA
      rcases hv with ⟨_, rfl⟩ | ⟨_, g, _, rfl, _⟩
      all_goals
        go_wp2_with (fail)
        go_ret
        exact ⟨rfl, below_step H0.out HB.out⟩
    | none =>
      have hv := HEA.out
      rw [hme] at hv
      obtain rfl : ea = .nilIface := hv
      have hra := HRA.out hme
      obtain ⟨Aa, ca, rfl⟩ := Kd.R_slice hra
      have HRR := Aside0.mk (Kd.R_reads' hra)
      have HQ := Aside0.mk (And.intro (mod_of hme (mod_r HRM.out)).1 hme)
      have HLE := Aside0.mk (encMod_len HOM.out)
      have hp := encMod_pos m
      generalize hbe : encMod m = be at HRR HLE hp hra
      have HBE := Aside0.mk hbe
      clear hme HRA HEA hra hbe
      obtain ⟨n2, hn2⟩ : ∃ n2 : Int, n2 = if n < 0 then -(n + 1) else n := ⟨_, rfl⟩
      have h20 : 0 ≤ n2 ∧ n2 < 9223372036854775808 := by
        have := HN.out
        rw [hn2]
        split <;> omega
      have hz : ((be.length : Int) == 0) = false := beq_eq_false_iff_ne.mpr (by omega)
      have HN2 := Aside0.mk (And.intro hn2 h20)
      clear hn2 h20
      go_upto_if 44 with (fail)
      go_cut [1] (fun v1 wx => v1 = .int .i64 n2 ∧ w7 = wx)
      case first =>
        by_cases hneg : n < 0
        · have h1 : wrap64 (n + 1) = n + 1 := by have := HN.out; unfold wrap64; omega
          have h2 : wrap64 (-(n + 1)) = n2 := by have := HN.out; have := HN2.out.1; rw [if_pos hneg] at this; unfold wrap64; omega
          go_wp2
          go_meet
          case rel => exact ⟨by simp only [h2], rfl⟩
        · obtain rfl : n2 = n := by have := HN2.out.1; rw [if_neg hneg] at this; exact this
          go_wp2
          go_meet
          case rel => exact ⟨rfl, rfl⟩
      case rest =>
        obtain ⟨rfl, rfl⟩ := hcut
        obtain ⟨k, hk⟩ : ∃ k : Nat, n2 = (k : Int) := ⟨n2.toNat, by have := HN2.out.2; omega⟩
        subst hk
        obtain ⟨j, hj⟩ : ∃ j : Nat, j = k % be.length := ⟨_, rfl⟩
        have hjl : j < be.length := by rw [hj]; exact Nat.mod_lt k (show 0 < be.length by omega)
        have hrem : (k : Int) % (be.length : Int) = (j : Int) := by rw [hj]; rfl
        have hcap := HRR.out.2.1
        have d3 : ((0 : Int) ≤ (j : Int)) = True := eq_true (by omega)
        have d4 : ((j : Int) ≤ (ca : Int)) = True := eq_true (by omega)
        have HJ := Aside0.mk hjl
        clear hj hjl hcap
        go_wp2_with (fail)
        refine (decode_at (be.take j) j (by rw [List.length_take]; have := HJ.out; omega) Aa ca (C_take HRR.out.2.2 (Nat.le_of_lt HJ.out)) (by rw [List.length_take]; have := HRR.out.2.1; omega) (fun a ha => mod_byte m a (by rw [HBE.out]; exact List.mem_of_mem_take ha)) (by rw [List.length_take]; have := HLE.out; omega)).mono ?_
        rintro e w8 ⟨⟨v8, e8, rfl, he8, hr8⟩, hb⟩
        have hbad := begin_bad HQ.out.1 (n := j) (by rw [HBE.out]; exact HJ.out)
        rw [HBE.out] at hbad
        generalize dMod (be.take j) = D8 at he8 hr8 hbad
        obtain ⟨l8, er8⟩ := D8
        dsimp only at he8 hr8 hbad
        obtain ⟨A8, c8, rfl⟩ := Kd.R_slice hr8
        have HB8 := Aside0.mk hb
        clear hb hr8 hrem d3 d4
        cases er8 with
        | none => exact absurd rfl hbad
        | some ac =>
        obtain ⟨ax, cx⟩ := ac
        clear hbad
        rcases he8 with ⟨_, rfl⟩ | ⟨_, g8, _, rfl, _⟩
        all_goals
          go_upto_region 12 with (fail)
          have hb9 := below_alloc HB8.out (.cells #[.slice A8 l8.length c8] 24)
          generalize w8.alloc (.cells #[.slice A8 l8.length c8] 24) = w9 at hb9 ⊢
          have HB9 := Aside0.mk hb9
          have HCM := Aside0.mk (Kd.C_below (Kd.C_below HCB.out H0.out) (below_step HB.out hb9))
          clear hb9 HB8
          go_wp2_with (first
            | ((with_reducible refine gate_builtin (b := .append) (xs := #[.tmp 60, .tmp 61]) rfl ?_); at_builtin; refine Kd.R_append_rows (Kd.int .u8) (w0 := w7) (W := w9.alloc (.cells #[] 5)) w7.heap.size rfl (.tmp 60) (.tmp 61) 27 5 (.int .u8 0) 1 rfl Tryd.underlying27 info5 rfl (by decide) (by omega) (.slice (some ⟨w9.heap.size, 0, none⟩) 0 0) [] be Aa be.length ca (fun _ => True) (fun _ => False) rfl rfl ?aO ?aR (fun _ _ h => h) (fun _ h => h.elim) (fun _ _ => trivial) ?aB ?aS ?aL ?_; (case aO => exact R_none w9 w7.heap.size _ HB9.out.size trivial); (case aR => exact Kd.C_below HRR.out.2.2 (below_alloc HB9.out _)); (case aB => exact below_alloc HB9.out _); (case aS => exact (below_alloc HB9.out _).size); (case aL => have := HLE.out; simp; omega); intro v10 w10 ho hb hg hat; rw [List.nil_append] at ho; obtain ⟨A10, c10, rfl⟩ := Kd.R_slice ho; have HR10 := Aside0.mk ho; have HB10 := Aside0.mk hb; have HG10 := Aside0.mk hg; clear ho hb hg hat)
            | ((with_reducible refine gate_builtin (b := .append) (xs := #[.tmp 62, .tmp 63]) rfl ?_); at_builtin; refine Kd.R_append_rows (Kd.int .u8) (w0 := w7) (W := w10) w7.heap.size rfl (.tmp 62) (.tmp 63) 27 5 (.int .u8 0) 1 rfl Tryd.underlying27 info5 rfl (by decide) (by omega) (.slice A10 be.length c10) be bs Ab bs.length cb (fun _ => True) (fun _ => False) rfl rfl ?aO ?aR (fun _ _ h => h) (fun _ h => h.elim) (fun _ _ => trivial) ?aB ?aS ?aL ?_; (case aO => exact HR10.out); (case aR => exact Kd.C_below (Kd.C_below HCB.out H0.out) (below_step HB.out HB10.out)); (case aB => exact HB10.out); (case aS => exact HB10.out.size); (case aL => have := HLE.out; have := HL.out; omega); intro v12 w12 ho hb hg hat; obtain ⟨be2, hbe2⟩ : ∃ l, l = be ++ bs := ⟨_, rfl⟩; rw [← hbe2] at ho; obtain ⟨A12, c12, rfl⟩ := Kd.R_slice ho; have HR12 := Aside0.mk (Kd.R_reads' ho); have HB12 := Aside0.mk hb; have HE2 := Aside0.mk hbe2; clear ho hb hg hat hbe2))
          have hby2 : ∀ a ∈ be2, Byte a := by rw [HE2.out]; exact app_byte (fun a ha => mod_byte m a (by rw [HBE.out]; exact ha)) HBY.out
          have hl2 : be2.length ≤ 100000000000 := by rw [HE2.out, List.length_append]; have := HLE.out; have := HL.out; omega
          refine (decode_any be2 A12 c12 HR12.out.2.2 HR12.out.2.1 hby2 hl2).mono ?_
          rintro e wd ⟨⟨vd, ed, rfl, hed, hrd⟩, hb⟩
          have key1 : bs.length = 0 → (dMod be2).2 = none := fun h => by
            have h0 : bs = [] := List.eq_nil_of_length_eq_zero h
            rw [HE2.out, h0, List.append_nil, ← HBE.out, dec_enc HQ.out.1 HQ.out.2]
          have key2 : bs.length ≠ 0 → (dMod be2).2 ≠ none := fun h => by
            rw [HE2.out, ← HBE.out]
            exact more_bad HQ.out.1 HBY.out (fun e => h (by rw [e]; rfl))
          generalize dMod be2 = D at hed hrd key1 key2
          obtain ⟨ld, erd⟩ := D
          dsimp only at hed hrd key1 key2
          obtain ⟨Ad, cd, rfl⟩ := Kd.R_slice hrd
          have HBD := Aside0.mk (below_step HB.out (below_step HB12.out hb))
          clear hb hrd hby2 hl2
          by_cases hbs : bs.length = 0
          · have hn := key1 hbs
            subst hn
            obtain rfl : ed = .nilIface := hed
            have d3 : decide ((0 : Int) < (bs.length : Int)) = false := decide_eq_false (by omega)
            have d4 : decide (0 < bs.length) = false := decide_eq_false (by omega)
            clear key1 key2 hbs
            go_wp2_with (fail)
            go_ret
            exact ⟨rfl, below_step H0.out (below_alloc HBD.out _)⟩
          · have hn := key2 hbs
            have d3 : decide ((0 : Int) < (bs.length : Int)) = true := decide_eq_true (by omega)
            have d4 : decide (0 < bs.length) = true := decide_eq_true (by omega)
            clear key1 key2 hbs
            cases erd with
            | none => exact absurd rfl hn
            | some ac2 =>
            obtain ⟨ay, cy⟩ := ac2
            clear hn
            rcases hed with ⟨_, rfl⟩ | ⟨_, gd, _, rfl, _⟩
            all_goals
              go_wp2_with (fail)
              go_ret
              exact ⟨rfl, below_step H0.out (below_alloc HBD.out _)⟩
end Go.Proofs.YtckebppacealeaaDoor.Rk
