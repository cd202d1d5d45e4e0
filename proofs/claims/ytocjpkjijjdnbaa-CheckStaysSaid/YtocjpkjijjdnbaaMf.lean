/- The law CheckStays returns true for any module and any number. Conditions: the number is of its kind. -/
import Derived.Test.YtocjpkjijjdnbaaMe
import Derived.Test.YtocjpkjijjdnbaaMc
import Derived.Test.YtocjpkjijjdnbaaMd
namespace Go.Proofs.Ytocjpkjijjdnbaa.Lk
open Go.RowKit Go.Proofs.YtocjpkjijjdnbaaW.PrintWords Go.Proofs.YtocjpkjijjdnbaaW.PrintLast Go.Proofs.YtocjpkjijjdnbaaW.PrintMore Go.Proofs.YtocjpkjijjdnbaaW.PrintWords.Kd Go.Proofs.Ytocjpkjijjdnbaa.PCheckStays Go.Proofs.Ytocjpkjijjdnbaa.Lp
attribute [local go_sem] max2_int min2_int max_two min_two max_three min_three max_four min_four
set_option linter.unusedVariables false
set_option linter.unusedSimpArgs false
variable {w w1 : World}
/-- Rows of numbers in a row at ag: all may be written, and are from base on. -/
def Rows2 (w : World) (base : Nat) (ag : Addr) (L : List Nat) : Prop :=
  ∀ i, i < L.length → ∃ Ai ci, w.cell? (ag.add i) = some (.slice Ai (L.getD i 0) ci) ∧ ∀ k, k < L.getD i 0 → ∃ ai, Ai = some ai ∧ base ≤ ai.block ∧ ai.block ≠ ag.block ∧ (∃ z, w.cell? (ai.add k) = some (.int .i64 z)) ∧ w.frozen? (ai.add k) = false
theorem add_block (a : Addr) (k : Nat) : (a.add k).block = a.block := by
  unfold Addr.add
  split <;> rfl
theorem Rows2.set {base : Nat} {ag : Addr} {L : List Nat} (h : Rows2 w base ag L) {p : Addr} (hj : p.block ≠ ag.block) (z : Int) : Rows2 (w.setCell p (.int .i64 z)) base ag L := by
  intro i hi
  obtain ⟨Ai, ci, h1, h2⟩ := h i hi
  refine ⟨Ai, ci, (World.cell?_setCell_other _ _ _ _ (fun e => hj (by rw [e, add_block]))).trans h1, fun k hk => ?_⟩
  obtain ⟨ai, e1, e2, e3, ⟨z0, e4⟩, e5⟩ := h2 k hk
  refine ⟨ai, e1, e2, e3, ?_, (World.frozen?_setCell _ _ _ _).trans e5⟩
  by_cases e : p = ai.add k
  · rw [e]
    exact ⟨z, World.cell?_setCell_same _ _ _ e4⟩
  · exact ⟨z0, (World.cell?_setCell_other _ _ _ _ e).trans e4⟩
theorem add_zero_at (g k : Nat) : (⟨g, 0, none⟩ : Addr).add k = ⟨g, k, none⟩ := by cases k <;> simp [Addr.add]
theorem rows2_of {base g cap n : Nat} {R : List (List Int)} (h : Kd.R (Kd.slice 3 (Kd.int .i64)) 22 w base (fun _ => True) (.slice (some ⟨g, 0, none⟩) n cap) R) : Rows2 w base ⟨g, 0, none⟩ (R.map List.length) := by
  obtain ⟨hn, _, _⟩ := Kd.R_reads' h
  intro i hi
  rw [List.length_map] at hi
  obtain ⟨c, _, hM, hcc, _⟩ := Kd.R_elem h ([] : List Int) (i : Int) (by omega) (by omega)
  rw [Int.toNat_natCast] at hM hcc
  obtain ⟨v, rfl, hR⟩ := hM
  obtain ⟨Ai, ci, rfl⟩ := Kd.R_slice hR
  have hl : (R.map List.length).getD i 0 = (R.getD i []).length := by
    rw [List.getD_eq_getElem?_getD, List.getD_eq_getElem?_getD, List.getElem?_map, List.getElem?_eq_getElem hi]
    rfl
  rw [hl]
  have hcc2 : ∀ j u, [Value.slice Ai (R.getD i []).length ci][j]? = some u → w.cell? ⟨g, i * 1 + j, none⟩ = some u := hcc
  refine ⟨Ai, ci, by have := hcc2 0 _ rfl; rw [Nat.mul_one, Nat.add_zero] at this; rw [add_zero_at]; exact this, fun k hk => ?_⟩
  obtain ⟨gi, cap2, he, h1, h2, cells, h3⟩ := Kd.R_form hR (by omega)
  injection he with he1 he2 he3
  subst he1
  have ho := Kd.own_of_R hR
  have hc := own_at_of (d := (0 : Int)) ho (k : Int) (by omega) (by omega)
  rw [Int.toNat_natCast] at hc
  exact ⟨⟨gi, 0, none⟩, rfl, h1, fun e => (hR.1 gi (by simp [Value.ownBlock])).2 e, ⟨_, by rw [add_zero_at]; exact hc.1⟩, by rw [add_zero_at]; exact hc.2⟩
section
variable {Ar : Option Addr} {cr : Nat} {Ab : Option Addr} {cb : Nat}
theorem ahead_own (f : Fn) (s : Bd f.f3) (hr : Kd.C (Kd.int .i64) w Ar f.f2.length f.f2) (hcr : f.f2.length ≤ cr) (hb : Kd.C k43 w Ab f.f3.length f.f3) (hcb : f.f3.length ≤ cb) :
    Calls Try.prog 8 #[.agg #[.int .i64 f.f0, .int .i64 f.f1, .slice Ar f.f2.length cr, .slice Ab f.f3.length cb]] w fun e w' => (∃ (A : Option Addr) (c : Nat) (R : List (List Int)) (g : Addr), e = .returned (.slice A R.length c) ∧ Kd.C (Kd.slice 3 (Kd.int .i64)) w' A R.length R ∧ R.length = f.f3.length ∧ (∀ t, t < f.f3.length → R.getD t [] = ah f.f3 t f.f3.length) ∧ (0 < R.length → A = some g) ∧ Rows2 w' w.heap.size g (R.map List.length)) ∧ Below w.heap.size w w' := by
  obtain ⟨R, hR, hl, hv⟩ := ahead_ev f.f3 s f.f0 f.f1 f.f2
  obtain ⟨k, hk⟩ := hR.rounds
  refine (check_Ahead.calls k f.f0 f.f1 Ar cr f.f2 Ab cb f.f3 _ w hr hcr hb hcb hk).mono ?_
  rintro e w' ⟨v, rfl, hS, hb⟩
  obtain ⟨A, c, rfl⟩ := Kd.S_slice hS
  by_cases h0 : 0 < R.length
  · obtain ⟨g, cap, he, _⟩ := Kd.R_form (Kd.S_R hS) h0
    injection he with he1 _ he3
    subst he1
    exact ⟨⟨_, c, R, ⟨g, 0, none⟩, rfl, (Kd.S_reads' hS).2.2, hl, hv, fun _ => rfl, rows2_of (Kd.S_R hS)⟩, hb⟩
  · exact ⟨⟨A, c, R, ⟨0, 0, none⟩, rfl, (Kd.S_reads' hS).2.2, hl, hv, fun h => absurd h h0, fun i hi => by rw [List.length_map] at hi; omega⟩, hb⟩
end
theorem ah_nonneg (B : List Bk) (t i : Nat) (x : Int) (h : x ∈ ah B t i) : 0 ≤ x := by
  obtain ⟨u, _, rfl⟩ := List.mem_map.mp h
  exact Int.natCast_nonneg u
set_option maxHeartbeats 16000000 in
set_option maxRecDepth 100000 in
theorem stays_any (m : List Fn) (Am : Option Addr) (cm : Nat) (hm : Kd.C k25 w Am m.length m) (hcm : m.length ≤ cm) (n : Int) :
    Calls Try.prog 5 #[.agg #[.slice Am m.length cm], .int .i64 n] w fun e w' => e = .returned (.bool true) ∧ Below w.heap.size w w' := by
  obtain ⟨sm, hsm, hok⟩ := small_mod m
  obtain ⟨ks, hks⟩ := hsm.rounds
  have HM := Aside0.mk hm
  have HCM := Aside0.mk hcm
  have HKS := Aside0.mk hks
  have HOK := Aside0.mk hok
  clear hm hcm hks hsm hok
  go_enter Try.func5, Try.ntmps5
  go_wp2_with ((with_reducible refine gate_dst (N := 2) rfl ?_); refine box_event ?hg (N := 2) ?hd (cs := #[.slice Am m.length cm]) (t := 30) ?hr ?_; (case hd => rfl); (case hg => rfl); (case hr => first | (go_simp; done) | (go_simp; rfl)); intro gb2 hg w2 hbox hb; have BX2 := Aside0.mk hbox; have H0 := Aside0.mk hb; have HG2 := Aside0.mk hg; have HB := Aside0.mk (Below.refl w2.heap.size w2); clear hbox hb hg; have hx2_0 : w2.cell? ⟨gb2, 0, none⟩ = some (.slice Am m.length cm) := (blk_cell BX2.out 0).trans rfl)
  refine (fettlelaw02_up.calls true _ rfl).mono ?_
  rintro e w3 ⟨rfl, hb⟩
  replace HB := Aside0.mk (below_step HB.out hb)
  clear hb hx2_0
  have hx2_0 := bx_cell BX2.out HB.out 0 (v := .slice Am m.length cm) rfl
  go_wp2_with (fail)
  refine (fettleref02_Small.calls ks Am cm m sm _ (Kd.C_below (Kd.C_below HM.out H0.out) HB.out) HCM.out HKS.out).mono ?_
  rintro e w4 ⟨rfl, hb⟩
  replace HB := Aside0.mk (below_step HB.out (by first | exact hb | exact hb.below))
  clear hb hx2_0
  cases sm with
  | false =>
    go_wp2
    go_ret
    exact ⟨rfl, below_step H0.out HB.out⟩
  | true =>
    have HOM := Aside0.mk (HOK.out rfl)
    have HBD := Aside0.mk (fun j hj => (HOM.out.each j hj).bd)
    clear HOK HKS
    have hx2_0 := bx_cell BX2.out HB.out 0 (v := .slice Am m.length cm) rfl
    go_wp2_with (fail)
    refine (copy_any (w := w4) m HOM.out Am cm (Kd.C_below (Kd.C_below HM.out H0.out) HB.out) HCM.out).mono ?_
    rintro e w5 ⟨⟨v, rfl, hR⟩, hb⟩
    obtain ⟨Ao, co, rfl⟩ := Kd.R_slice hR
    obtain ⟨_, hco, hCo⟩ := Kd.R_reads' hR
    replace HB := Aside0.mk (below_step HB.out hb)
    have HCO := Aside0.mk hco
    have HO5 := Aside0.mk hCo
    clear hb hx2_0 hR hco hCo
    go_upto_region 6 with (fail)
    have hb7 := below_alloc (Below.refl w5.heap.size w5) (.cells #[.slice Ao m.length co] 30)
    have hx7 := blk_new w5 (.cells #[.slice Ao m.length co] 30)
    generalize w5.alloc (.cells #[.slice Ao m.length co] 30) = w6 at hb7 hx7 ⊢
    generalize w5.heap.size = g7 at hx7 ⊢
    have HO := Aside0.mk (Kd.C_below HO5.out hb7)
    have HM6 := Aside0.mk (Kd.C_below (Kd.C_below (Kd.C_below HM.out H0.out) HB.out) hb7)
    have BX7 := Aside0.mk hx7
    replace BX2 := Aside0.mk (blk_below (blk_below BX2.out HB.out) hb7)
    replace H0 := Aside0.mk (below_step H0.out (below_step HB.out hb7))
    replace HB := Aside0.mk (Below.refl w6.heap.size w6)
    clear hb7 hx7 HO5 HM
    have hx7_0 := bx_cell BX7.out HB.out 0 (v := .slice Ao m.length co) rfl
    go_wp2_with (fail)
    refine (module_any m Ao co HO.out HCO.out HBD.out).mono ?_
    rintro e w7 ⟨⟨v, rfl, _⟩, hb⟩
    replace HB := Aside0.mk (below_step HB.out hb)
    clear hb hx7_0
    have hx7_0 := bx_cell BX7.out HB.out 0 (v := .slice Ao m.length co) rfl
    go_wp2_with (fail)
    refine (plain_any m Ao co (Kd.C_below HO.out HB.out) HCO.out HBD.out).mono ?_
    rintro e w8 ⟨⟨v2, rfl, _⟩, hb⟩
    replace HB := Aside0.mk (below_step HB.out hb)
    clear hb hx7_0
    have hx7_0 := bx_cell BX7.out HB.out 0 (v := .slice Ao m.length co) rfl
    go_wp2_with (fail)
    refine (func_any m Ao co (Kd.C_below HO.out HB.out) HCO.out n HBD.out).mono ?_
    rintro e w9 ⟨rfl, hb⟩
    replace HB := Aside0.mk (below_step HB.out hb)
    clear hb hx7_0
    have hx2_0 := bx_cell BX2.out HB.out 0 (v := .slice Am m.length cm) rfl
    have hx7_0 := bx_cell BX7.out HB.out 0 (v := .slice Ao m.length co) rfl
    by_cases c0 : n < 0 ∨ (m.length : Int) ≤ n
    · have HCON := Aside0.mk (same_any (w := w9) m m Ao Am co cm (Kd.C_below HO.out HB.out) (Kd.C_below HM6.out HB.out))
      rcases c0 with c0 | c0
      · have d0 := decide_eq_true c0
        clear c0
        go_wp2_with (fail)
        refine (Says.yes HCON.out (by first | rfl | trivial)).mono ?_
        rintro e w10 ⟨rfl, hb⟩
        replace HB := Aside0.mk (below_step HB.out hb)
        clear hb
        go_wp2
        go_ret
        exact ⟨rfl, below_step H0.out HB.out⟩
      · have hml := HOM.out.n
        have c1 : ¬ n < 0 := by omega
        have d0 := decide_eq_false c1
        have d1 := decide_eq_true c0
        clear c0 c1 hml
        go_wp2_with (fail)
        refine (Says.yes HCON.out (by first | rfl | trivial)).mono ?_
        rintro e w10 ⟨rfl, hb⟩
        replace HB := Aside0.mk (below_step HB.out hb)
        clear hb
        go_wp2
        go_ret
        exact ⟨rfl, below_step H0.out HB.out⟩
    have c1 : ¬ n < 0 := fun h => c0 (.inl h)
    have c2 : ¬ (m.length : Int) ≤ n := fun h => c0 (.inr h)
    obtain ⟨N, rfl⟩ : ∃ N : Nat, n = N := ⟨n.toNat, by omega⟩
    have hN : N < m.length := by omega
    have d0 := decide_eq_false c1
    have d1 := decide_eq_false c2
    have P0 := Aside0.mk (show 0 ≤ (N : Int) by omega)
    have Q0 := Aside0.mk (show (N : Int) < (m.length : Int) by omega)
    obtain ⟨f, hf⟩ : ∃ f, f = m.getD N z25 := ⟨_, rfl⟩
    have HF := Aside0.mk hf
    have HS := Aside0.mk (show Bd f.f3 by rw [hf]; exact HBD.out N hN)
    obtain ⟨am, A2, k2, A3, k3, ex, hy0, hy1, hy2, hy3, hl2, hi2, hl3, hi3⟩ := at_T25 HO.out N P0.out Q0.out
    cases ex
    rw [Int.toNat_natCast] at hy0 hy1 hy2 hy3
    rw [show rd_T25 m (N : Int) = f from HF.out.symm] at hy0 hy1 hy2 hy3 hl2 hi2 hl3 hi3
    have HY := Aside0.mk (And.intro hy0 (And.intro hy1 (And.intro hy2 hy3)))
    have HI := Aside0.mk (And.intro hl2 (And.intro hi2 (And.intro hl3 hi3)))
    clear hf c0 c1 c2 hl2 hi2 hl3 hi3
    replace hy0 := (HB.out.cell (World.block_lt_of_cell? w6 _ hy0)).trans hy0
    replace hy1 := (HB.out.cell (World.block_lt_of_cell? w6 _ hy1)).trans hy1
    replace hy2 := (HB.out.cell (World.block_lt_of_cell? w6 _ hy2)).trans hy2
    replace hy3 := (HB.out.cell (World.block_lt_of_cell? w6 _ hy3)).trans hy3
    have p1 := eq_true P0.out
    have q1 := eq_true Q0.out
    go_wp2_with (fail)
    refine (ahead_own f HS.out (Kd.C_below HI.out.2.1 HB.out) HI.out.1 (Kd.C_below HI.out.2.2.2 HB.out) HI.out.2.2.1).mono ?_
    rintro e w10 ⟨⟨Aa, ca, R, g, rfl, hC, hRl, hRv, hA, hR2⟩, hb⟩
    have HGE := Aside0.mk (HB.out.size)
    have HB10 := Aside0.mk (below_step HB.out hb)
    have HRL := Aside0.mk hRl
    have HAA := Aside0.mk hA
    have HR2 := Aside0.mk hR2
    have HRM := Aside0.mk (hC.2.1)
    have HL2 := Aside0.mk (show (R.map List.length).length = R.length from List.length_map ..)
    clear hb hC hA hR2 hy0 hy1 hy2 hy3 hx2_0 hx7_0 d0 d1
    have hLI : ∀ i, (R.map List.length).getD i 0 ≤ 100000 := by
      intro i
      by_cases hi : i < R.length
      · rw [List.getD_eq_getElem?_getD, List.getElem?_map, List.getElem?_eq_getElem hi]
        have h1 := hRv i (by omega)
        rw [getD_at _ _ _ hi] at h1
        have h2 := ah_len f.f3 i f.f3.length
        have h3 := HS.out.n
        show (R[i]).length ≤ 100000
        rw [h1]
        omega
      · rw [List.getD_eq_getElem?_getD, List.getElem?_eq_none (by rw [List.length_map]; omega)]
        exact Nat.zero_le _
    clear hRv
    generalize R.map List.length = L at *
    go_wp2
    have HB := HB10
    have HLI := Aside0.mk hLI
    clear hLI
    go_loopw [9] (fun v9 wr => ∃ i : Nat, i ≤ R.length ∧ v9 = .int .i64 i ∧ Aside0 (Rows2 wr w9.heap.size g L) ∧ Aside0 (Below w6.heap.size w6 wr)) (fun v9 _ => R.length - (intOf v9).toNat)
    case atStart => exact ⟨0, Nat.zero_le _, rfl, HR2, HB⟩
    case round =>
      clear HR2 HB HB10
      obtain ⟨i, hi, rfl, HR2, HB⟩ := hrel
      have hrm := HRM.out
      by_cases hlt : i < R.length
      · obtain rfl := HAA.out (by omega)
        have e0 : decide ((i : Int) < (R.length : Int)) = true := decide_eq_true (by omega)
        have HLT := Aside0.mk hlt
        have PI := Aside0.mk (show 0 ≤ (i : Int) by omega)
        have QI := Aside0.mk (show (i : Int) < (R.length : Int) by omega)
        go_wp2
        obtain ⟨wo, rfl⟩ : ∃ wo : World, wo = wr := ⟨_, rfl⟩
        clear hlt e0
        go_loopw [10] (fun v10 wr => ∃ q : Nat, q ≤ L.getD i 0 ∧ v10 = .int .i64 q ∧ Aside0 (Rows2 wr w9.heap.size g L) ∧ Aside0 (Below w6.heap.size w6 wr)) (fun v10 _ => L.getD i 0 - (intOf v10).toNat)
        case atStart => exact ⟨0, Nat.zero_le _, rfl, HR2, HB⟩
        case round =>
          clear HR2 HB
          obtain ⟨q, hq, rfl, HR2, HB⟩ := hrel
          obtain ⟨Ai, ci, hh, hrow⟩ := HR2.out i (by rw [HL2.out]; exact HLT.out)
          have HROW := Aside0.mk hrow
          have hrm := HRM.out
          have hli := HLI.out
          have p0 := eq_true PI.out
          have q0 := eq_true QI.out
          clear hrow
          by_cases hlt2 : q < L.getD i 0
          · obtain ⟨ai, rfl, hge, hne, ⟨z, hz⟩, hfz⟩ := HROW.out q hlt2
            have e1 : decide ((q : Int) < ((L.getD i 0 : Nat) : Int)) = true := decide_eq_true (by omega)
            have hli2 := hli i
            generalize hlg : L.getD i 0 = li at *
            have p1 : 0 ≤ (q : Int) := by omega
            have q1 : (q : Int) < (li : Int) := by omega
            have p2 := eq_true p1
            have q2 := eq_true q1
            have HGE2 := Aside0.mk hge
            have HNE := Aside0.mk hne
            clear hge hne p1 q1
            go_wp2
            go_roundw
            case rel => exact ⟨q + 1, hlt2, by go_num, ⟨HR2.out.set (by rw [add_block]; exact HNE.out) (-1)⟩, ⟨HB.out.setCell (by rw [add_block]; exact Nat.le_trans HGE.out HGE2.out) _⟩⟩
            case measure => simp [intOf]; omega
          · have e1 : decide ((q : Int) < ((L.getD i 0 : Nat) : Int)) = false := decide_eq_false (by omega)
            obtain rfl : q = L.getD i 0 := by omega
            have hlt := HLT.out
            go_wp2
            go_roundw
            case rel => exact ⟨i + 1, hlt, by go_num, HR2, HB⟩
            case measure => simp [intOf]; omega
      · have e0 : decide ((i : Int) < (R.length : Int)) = false := decide_eq_false (by omega)
        obtain rfl : i = R.length := by omega
        have hx7_0 := bx_cell BX7.out HB.out 0 (v := .slice (some am) m.length co) rfl
        have hy0 := (HB.out.cell (World.block_lt_of_cell? w6 _ HY.out.1)).trans HY.out.1
        have hy1 := (HB.out.cell (World.block_lt_of_cell? w6 _ HY.out.2.1)).trans HY.out.2.1
        have hy2 := (HB.out.cell (World.block_lt_of_cell? w6 _ HY.out.2.2.1)).trans HY.out.2.2.1
        have hy3 := (HB.out.cell (World.block_lt_of_cell? w6 _ HY.out.2.2.2)).trans HY.out.2.2.2
        have p1 := eq_true P0.out
        have q1 := eq_true Q0.out
        clear hlt hi hrm
        go_wp2_with (fail)
        refine (ahead_any (w := wr) f HS.out (Kd.C_below HI.out.2.1 HB.out) HI.out.1 (Kd.C_below HI.out.2.2.2 HB.out) HI.out.2.2.1).mono ?_
        rintro e w11 ⟨⟨Ax, cx, Rb, rfl, hC, hRl2, hRv2⟩, hb⟩
        have HB11 := Aside0.mk (below_step HB.out hb)
        have HCB := Aside0.mk hC
        have HRL2 := Aside0.mk hRl2
        have HRV2 := Aside0.mk hRv2
        have HRM2 := Aside0.mk (hC.2.1)
        clear hb hC hRl2 hRv2 hy0 hy1 hy2 hy3 hx7_0 HR2 HB
        have HB := Aside0.mk (Below.refl w11.heap.size w11)
        go_wp2
        go_loopw [12] (fun v12 wr => ∃ i : Nat, i ≤ Rb.length ∧ v12 = .int .i64 i ∧ Aside0 (Below w11.heap.size w11 wr)) (fun v12 _ => Rb.length - (intOf v12).toNat)
        case atStart => exact ⟨0, Nat.zero_le _, rfl, HB⟩
        case round =>
          clear HB
          obtain ⟨i, hi, rfl, HB⟩ := hrel
          have hrm := HRM2.out
          by_cases hlt : i < Rb.length
          · have e0 : decide ((i : Int) < (Rb.length : Int)) = true := decide_eq_true (by omega)
            have HLT := Aside0.mk hlt
            have PI := Aside0.mk (show 0 ≤ (i : Int) by omega)
            have QI := Aside0.mk (show (i : Int) < (Rb.length : Int) by omega)
            obtain ⟨row, hrow⟩ : ∃ row, row = Rb.getD i [] := ⟨_, rfl⟩
            have HROW := Aside0.mk hrow.symm
            have HNN := Aside0.mk (show ∀ x, x ∈ row → 0 ≤ x from fun x hx => by
              rw [hrow, HRV2.out i (by have := HRL2.out; omega)] at hx
              exact ah_nonneg _ _ _ x hx)
            clear hrow
            go_wp2
            obtain ⟨wo, rfl⟩ : ∃ wo : World, wo = wr := ⟨_, rfl⟩
            clear hlt e0
            go_loopw [13] (fun v13 wr => ∃ q : Nat, q ≤ row.length ∧ v13 = .int .i64 q ∧ Aside0 (Below w11.heap.size w11 wr)) (fun v13 _ => row.length - (intOf v13).toNat)
            case atStart => exact ⟨0, Nat.zero_le _, rfl, HB⟩
            case round =>
              clear HB
              obtain ⟨q, hq, rfl, HB⟩ := hrel
              obtain ⟨ab', Ai, ci, ex, hh, hrow⟩ := rows_at (Kd.C_below HCB.out HB.out) i HLT.out
              cases ex
              rw [HROW.out] at hh hrow
              have hrm := HRM2.out
              have hli := hrow.2.1
              have p0 := eq_true PI.out
              have q0 := eq_true QI.out
              by_cases hlt2 : q < row.length
              · have e1 : decide ((q : Int) < (row.length : Int)) = true := decide_eq_true (by omega)
                have p1 : 0 ≤ (q : Int) := by omega
                have q1 : (q : Int) < (row.length : Int) := by omega
                obtain ⟨ai, ei, hz⟩ := Kd.at_int hrow q p1 q1
                cases ei
                rw [Int.toNat_natCast] at hz
                have hnn : 0 ≤ rd row (q : Int) := HNN.out _ (rd_mem hlt2)
                have d3 : decide (rd row (q : Int) < 0) = false := decide_eq_false (by omega)
                generalize rd row (q : Int) = z at *
                have p2 := eq_true p1
                have q2 := eq_true q1
                clear p1 q1 hrow
                go_wp2
                go_roundw
                case rel => exact ⟨q + 1, hlt2, by go_num, HB⟩
                case measure => simp [intOf]; omega
              · have e1 : decide ((q : Int) < (row.length : Int)) = false := decide_eq_false (by omega)
                obtain rfl : q = row.length := by omega
                have hlt := HLT.out
                clear hrow
                go_wp2
                go_roundw
                case rel => exact ⟨i + 1, hlt, by go_num, HB⟩
                case measure => simp [intOf]; omega
          · have e0 : decide ((i : Int) < (Rb.length : Int)) = false := decide_eq_false (by omega)
            obtain rfl : i = Rb.length := by omega
            have HBB := Aside0.mk (below_step HB11.out HB.out)
            have HCON := Aside0.mk (same_any (w := wr) m m (some am) Am co cm (Kd.C_below HO.out HBB.out) (Kd.C_below HM6.out HBB.out))
            have hx2_0 := bx_cell BX2.out HBB.out 0 (v := .slice Am m.length cm) rfl
            have hx7_0 := bx_cell BX7.out HBB.out 0 (v := .slice (some am) m.length co) rfl
            have hll : (R.length : Int) = (Rb.length : Int) := by
              have := HRL.out
              have := HRL2.out
              omega
            have ll_1 : (((R.length : Int)) == ((Rb.length : Int))) = true := beq_iff_eq.mpr hll
            have ll_2 : (((R.length : Int)) != ((Rb.length : Int))) = false := bne_eq_false_iff_eq.mpr hll
            have hlm : (f.f3.length : Int) = (Rb.length : Int) := by
              have := HRL2.out
              omega
            have lm_1 : (((f.f3.length : Int)) == ((Rb.length : Int))) = true := beq_iff_eq.mpr hlm
            have lm_2 : (((f.f3.length : Int)) != ((Rb.length : Int))) = false := bne_eq_false_iff_eq.mpr hlm
            clear hlt hi hll hlm
            go_wp2_with (fail)
            refine (Says.yes HCON.out (by first | rfl | trivial)).mono ?_
            rintro e w12 ⟨rfl, hb⟩
            have HB12 := Aside0.mk (below_step HBB.out hb)
            clear hb
            go_wp2
            go_ret
            exact ⟨rfl, below_step H0.out HB12.out⟩
end Go.Proofs.Ytocjpkjijjdnbaa.Lk
