/- DomStays: whatever the function, the law returns true. Conditions: none. -/
import Derived.Test.YtpionncanaamgaaSa
import Derived.Test.YtpionncanaamgaaMc
import Derived.Test.YtpionncanaamgaaMd
import Derived.Test.YtpionncanaamgaaPureDomStays
import Derived.StillTailTactics
namespace Go.Proofs.Ytpionncanaamgaa.Lk
open Go.RowKit Go.Proofs.YtpionncanaamgaaW.PrintWords Go.Proofs.YtpionncanaamgaaW.PrintLast Go.Proofs.YtpionncanaamgaaW.PrintMore Go.Proofs.YtpionncanaamgaaW.PrintWords.Kd Go.Proofs.Ytpionncanaamgaa.PDomStays Go.Proofs.Ytpionncanaamgaa.Lp
attribute [local go_sem] max2_int min2_int max_two min_two max_three min_three max_four min_four
set_option linter.unusedVariables false
set_option linter.unusedSimpArgs false
variable {w w1 : World}
def IsI (v : Value) : Prop := ∃ z : Int, v = .int .i64 z
def IsB (v : Value) : Prop := ∃ z : Bool, v = .bool z
theorem far_blk {w : World} {p : Addr} {v : Value} {hi : Nat} {w0 : World} (h : ∀ k, hi ≤ k → w.heap[k]? = w0.heap[k]?) (hp : p.block < hi) : ∀ k, hi ≤ k → (w.setCell p v).heap[k]? = w0.heap[k]? := fun k hk =>
  (Below.heap_setCell w p v k (by omega)).trans (h k hk)
theorem getD_map_len {α : Type} {T : List (List α)} {n : Nat} (h : ∀ i, i < T.length → (T.getD i []).length ≤ n) (i : Nat) : (T.map List.length).getD i 0 ≤ n := by
  by_cases hi : i < T.length
  · have := h i hi
    rw [List.getD_eq_getElem?_getD, List.getElem?_map, List.getElem?_eq_getElem hi]
    rw [List.getD_eq_getElem?_getD, List.getElem?_eq_getElem hi] at this
    exact this
  · rw [List.getD_eq_getElem?_getD, List.getElem?_eq_none (by rw [List.length_map]; omega)]
    exact Nat.zero_le _
set_option maxHeartbeats 16000000 in
set_option maxRecDepth 100000 in
theorem domStays_any (f : Fn) (A2 A3 : Option Addr) (c2 c3 : Nat) (h2 : Kd.C (Kd.int .i64) w A2 f.f2.length f.f2) (l2 : f.f2.length ≤ c2) (h3 : Kd.C k52 w A3 f.f3.length f.f3) (l3 : f.f3.length ≤ c3) :
    Calls Try.prog 7 #[.agg #[.int .i64 f.f0, .int .i64 f.f1, .slice A2 f.f2.length c2, .slice A3 f.f3.length c3]] w fun e w' => e = .returned (.bool true) ∧ Below w.heap.size w w' := by
  obtain ⟨sm, hsm, hok⟩ := small_mod [f]
  obtain ⟨ks, hks⟩ := (show Ev (fun k => fettlelaw06_small.f k f.f0 f.f1 f.f2 f.f3) sm from Ev.bind (f := fun _ (t : Bool) => some t) hsm (Ev.now sm)).rounds
  obtain ⟨ku, hku⟩ := Pure.up_ev.rounds
  have H2 := Aside0.mk h2
  have L2 := Aside0.mk l2
  have H3 := Aside0.mk h3
  have L3 := Aside0.mk l3
  have HKS := Aside0.mk hks
  have HKU := Aside0.mk hku
  have HOK := Aside0.mk hok
  clear h2 l2 h3 l3 hsm hks hku hok
  go_enter Try.func7, Try.ntmps7
  go_wp2_with ((with_reducible refine gate_dst (N := 1) rfl ?_); refine box_event ?hg (N := 1) ?hd (cs := #[.int .i64 f.f0, .int .i64 f.f1, .slice A2 f.f2.length c2, .slice A3 f.f3.length c3]) (t := 25) ?hr ?_; (case hd => rfl); (case hg => rfl); (case hr => first | (go_simp; done) | (go_simp; rfl)); intro gb1 hg w2 hbox hb; have BX1 := Aside0.mk hbox; have H0 := Aside0.mk hb; have HG1 := Aside0.mk hg; have HB := Aside0.mk (Below.refl w2.heap.size w2); clear hbox hb hg; have hx1_0 : w2.cell? ⟨gb1, 0, none⟩ = some (.int .i64 f.f0) := (blk_cell BX1.out 0).trans rfl; have hx1_1 : w2.cell? ⟨gb1, 1, none⟩ = some (.int .i64 f.f1) := (blk_cell BX1.out 1).trans rfl; have hx1_2 : w2.cell? ⟨gb1, 2, none⟩ = some (.slice A2 f.f2.length c2) := (blk_cell BX1.out 2).trans rfl; have hx1_3 : w2.cell? ⟨gb1, 3, none⟩ = some (.slice A3 f.f3.length c3) := (blk_cell BX1.out 3).trans rfl)
  refine (fettlelaw06_up.calls ku true _ HKU.out).mono ?_
  rintro e w3 ⟨rfl, hb⟩
  replace HB := Aside0.mk (below_step HB.out hb)
  clear hb hx1_0 hx1_1 hx1_2 hx1_3
  have hx1_0 := bx_cell BX1.out HB.out 0 (v := .int .i64 f.f0) rfl
  have hx1_1 := bx_cell BX1.out HB.out 1 (v := .int .i64 f.f1) rfl
  have hx1_2 := bx_cell BX1.out HB.out 2 (v := .slice A2 f.f2.length c2) rfl
  have hx1_3 := bx_cell BX1.out HB.out 3 (v := .slice A3 f.f3.length c3) rfl
  go_wp2_with (fail)
  refine (fettlelaw06_small.calls ks f.f0 f.f1 (fun k_ => k_ < w.heap.size) A2 c2 f.f2 (fun k_ => k_ < w.heap.size) A3 c3 f.f3 sm _ (Kd.V_mk L2.out (Kd.F_below (Kd.C_F (Kd.heap_int .i64) H2.out) (below_step H0.out HB.out))) (Kd.V_mk L3.out (Kd.F_below (Kd.C_F k52_heap H3.out) (below_step H0.out HB.out))) HKS.out).mono ?_
  rintro e w4 ⟨rfl, hb⟩
  replace HB := Aside0.mk (below_step HB.out hb)
  clear hb hx1_0 hx1_1 hx1_2 hx1_3
  cases sm with
  | false =>
    go_wp2
    go_ret
    exact ⟨rfl, below_step H0.out HB.out⟩
  | true =>
    have hof : OkF f := (HOK.out rfl).each 0 (Nat.zero_lt_one)
    have s : Pure.Small f.f3 := ⟨hof.blocks, fun u hu => (hof.each u hu).tos⟩
    obtain ⟨kc, hkc⟩ := (copyF_ev f hof).rounds
    obtain ⟨R, eR, hRl, near⟩ := Pure.nearest_ev f.f3 s f.f0 f.f1 f.f2
    obtain ⟨T, eT, tb⟩ := Pure.dominates_ev f.f3 s f.f0 f.f1 f.f2
    obtain ⟨X, eX, hXl, _⟩ := Pure.frontier_ev f.f3 s f.f0 f.f1 f.f2 T eT tb
    obtain ⟨U, eU, hUl, hUv⟩ := Pure.under_ev f.f3 s f.f0 f.f1 f.f2 R eR hRl near
    obtain ⟨kn, hkn⟩ := eR.rounds
    obtain ⟨kd, hkd⟩ := eT.rounds
    obtain ⟨kx, hkx⟩ := eX.rounds
    obtain ⟨ku2, hku2⟩ := eU.rounds
    obtain ⟨ki, hki⟩ := (Pure.ints_ev R R (by have := s.n; omega) rfl).rounds
    have KC := Aside0.mk hkc
    have KN := Aside0.mk hkn
    have KD := Aside0.mk hkd
    have KX := Aside0.mk hkx
    have KU := Aside0.mk hku2
    have KI := Aside0.mk hki
    have hn70 : f.f3.length ≤ 70 := hof.blocks
    have TL := Aside0.mk (show T.length ≤ 70 by have := tb.len; omega)
    have TI := Aside0.mk (show ∀ i, (T.map List.length).getD i 0 ≤ 70 from getD_map_len fun i hi => by have := tb.row i (by have := tb.len; omega); omega)
    have UL := Aside0.mk (show U.length ≤ 70 by omega)
    have RL := Aside0.mk (show R.length ≤ 70 by omega)
    have UI := Aside0.mk (show ∀ i, (U.map List.length).getD i 0 ≤ 70 from getD_map_len fun i hi => by rw [hUv i (by omega)]; have := Pure.und_len f.f3.length R i; omega)
    clear hkc eR eT eX eU hkn hkd hkx hku2 hki near tb hXl hUl hUv hRl s hof HOK HKS HKU hn70
    have hx1_0 := bx_cell BX1.out HB.out 0 (v := .int .i64 f.f0) rfl
    have hx1_1 := bx_cell BX1.out HB.out 1 (v := .int .i64 f.f1) rfl
    have hx1_2 := bx_cell BX1.out HB.out 2 (v := .slice A2 f.f2.length c2) rfl
    have hx1_3 := bx_cell BX1.out HB.out 3 (v := .slice A3 f.f3.length c3) rfl
    go_wp2_with (fail)
    refine (fettleref02_CopyFunc.calls kc f.f0 f.f1 A2 c2 f.f2 A3 c3 f.f3 f.f0 f.f1 f.f2 f.f3 w4 (Kd.C_below (Kd.C_below H2.out H0.out) HB.out) L2.out (Kd.C_below (Kd.C_below H3.out H0.out) HB.out) L3.out KC.out).mono ?_
    rintro e w5 ⟨v2, v3, rfl, hR2, hR3, hb⟩
    obtain ⟨B2, d2, rfl⟩ := Kd.R_slice hR2
    obtain ⟨B3, d3, rfl⟩ := Kd.R_slice hR3
    obtain ⟨_, m2, hC2⟩ := Kd.R_reads' hR2
    obtain ⟨_, m3, hC3⟩ := Kd.R_reads' hR3
    replace HB := Aside0.mk (below_step HB.out hb)
    have M2 := Aside0.mk m2
    have M3 := Aside0.mk m3
    have O2 := Aside0.mk hC2
    have O3 := Aside0.mk hC3
    clear hb hR2 hR3 m2 m3 hC2 hC3 hx1_0 hx1_1 hx1_2 hx1_3 KC
    go_upto_region 6 with (fail)
    have hb7 := below_alloc (Below.refl w5.heap.size w5) (.cells #[.int .i64 f.f0, .int .i64 f.f1, .slice B2 f.f2.length d2, .slice B3 f.f3.length d3] 25)
    have hx7 := blk_new w5 (.cells #[.int .i64 f.f0, .int .i64 f.f1, .slice B2 f.f2.length d2, .slice B3 f.f3.length d3] 25)
    generalize w5.alloc (.cells #[.int .i64 f.f0, .int .i64 f.f1, .slice B2 f.f2.length d2, .slice B3 f.f3.length d3] 25) = w6 at hb7 hx7 ⊢
    generalize w5.heap.size = gb7 at hx7 ⊢
    replace O2 := Aside0.mk (Kd.C_below O2.out hb7)
    replace O3 := Aside0.mk (Kd.C_below O3.out hb7)
    replace H0 := Aside0.mk (below_step H0.out (below_step HB.out hb7))
    replace BX1 := Aside0.mk (blk_below (blk_below BX1.out HB.out) hb7)
    replace H2 := Aside0.mk (Kd.C_below H2.out H0.out)
    replace H3 := Aside0.mk (Kd.C_below H3.out H0.out)
    have BX7 := Aside0.mk hx7
    replace HB := Aside0.mk (Below.refl w6.heap.size w6)
    clear hb7 hx7
    have hx7_0 := bx_cell BX7.out HB.out 0 (v := .int .i64 f.f0) rfl
    have hx7_1 := bx_cell BX7.out HB.out 1 (v := .int .i64 f.f1) rfl
    have hx7_2 := bx_cell BX7.out HB.out 2 (v := .slice B2 f.f2.length d2) rfl
    have hx7_3 := bx_cell BX7.out HB.out 3 (v := .slice B3 f.f3.length d3) rfl
    go_wp2_with (fail)
    refine (dom_Nearest.calls kn f.f0 f.f1 B2 d2 f.f2 B3 d3 f.f3 R w6 O2.out M2.out O3.out M3.out KN.out).mono ?_
    rintro e w7 ⟨vn, rfl, hR, hb⟩
    obtain ⟨An, cn, rfl⟩ := Kd.R_slice hR
    have HRN := Aside0.mk hR
    have N6 := Aside0.mk hb.size
    replace HB := Aside0.mk (below_step HB.out hb)
    clear hb hR hx7_0 hx7_1 hx7_2 hx7_3
    have hx7_0 := bx_cell BX7.out HB.out 0 (v := .int .i64 f.f0) rfl
    have hx7_1 := bx_cell BX7.out HB.out 1 (v := .int .i64 f.f1) rfl
    have hx7_2 := bx_cell BX7.out HB.out 2 (v := .slice B2 f.f2.length d2) rfl
    have hx7_3 := bx_cell BX7.out HB.out 3 (v := .slice B3 f.f3.length d3) rfl
    go_wp2_with (fail)
    refine (dom_Dominates.calls kd f.f0 f.f1 B2 d2 f.f2 B3 d3 f.f3 T w7 (Kd.C_below O2.out HB.out) M2.out (Kd.C_below O3.out HB.out) M3.out KD.out).mono ?_
    rintro e w8 ⟨vd, rfl, hS, hb⟩
    obtain ⟨Ad, cd, rfl⟩ := Kd.S_slice hS
    have HSD := Aside0.mk hS
    have N7 := Aside0.mk hb.size
    have HB8 := Aside0.mk hb
    replace HB := Aside0.mk (below_step HB.out hb)
    clear hb hS hx7_0 hx7_1 hx7_2 hx7_3
    have hx7_0 := bx_cell BX7.out HB.out 0 (v := .int .i64 f.f0) rfl
    have hx7_1 := bx_cell BX7.out HB.out 1 (v := .int .i64 f.f1) rfl
    have hx7_2 := bx_cell BX7.out HB.out 2 (v := .slice B2 f.f2.length d2) rfl
    have hx7_3 := bx_cell BX7.out HB.out 3 (v := .slice B3 f.f3.length d3) rfl
    go_wp2_with (fail)
    refine (dom_Frontier.calls kx f.f0 f.f1 B2 d2 f.f2 B3 d3 f.f3 X w8 (Kd.C_below O2.out HB.out) M2.out (Kd.C_below O3.out HB.out) M3.out KX.out).mono ?_
    rintro e w9 ⟨vx, rfl, hS, hb⟩
    obtain ⟨Ax, cx, rfl⟩ := Kd.S_slice hS
    have N8 := Aside0.mk hb.size
    have HB9 := Aside0.mk hb
    replace HB := Aside0.mk (below_step HB.out hb)
    clear hb hS hx7_0 hx7_1 hx7_2 hx7_3
    have hx7_0 := bx_cell BX7.out HB.out 0 (v := .int .i64 f.f0) rfl
    have hx7_1 := bx_cell BX7.out HB.out 1 (v := .int .i64 f.f1) rfl
    have hx7_2 := bx_cell BX7.out HB.out 2 (v := .slice B2 f.f2.length d2) rfl
    have hx7_3 := bx_cell BX7.out HB.out 3 (v := .slice B3 f.f3.length d3) rfl
    go_wp2_with (fail)
    refine (dom_Under.calls ku2 f.f0 f.f1 B2 d2 f.f2 B3 d3 f.f3 U w9 (Kd.C_below O2.out HB.out) M2.out (Kd.C_below O3.out HB.out) M3.out KU.out).mono ?_
    rintro e w10 ⟨vu, rfl, hS, hb⟩
    obtain ⟨Au, cu, rfl⟩ := Kd.S_slice hS
    have HSU := Aside0.mk hS
    have N9 := Aside0.mk hb.size
    have HB10 := Aside0.mk hb
    replace HB := Aside0.mk (below_step HB.out hb)
    clear hb hS hx7_0 hx7_1 hx7_2 hx7_3 KD KU
    go_upto_region 10 with (fail)
    have HN10 := Aside0.mk (below_step (below_step HB8.out HB9.out) HB10.out)
    have CN := Aside0.mk (Kd.C_below (Kd.R_reads' HRN.out).2.2 HN10.out)
    go_upto_region 11 with (first
      | ((with_reducible refine gate_dst (N := 32) rfl ?_); refine Kd.R_lit (Kd.int .i64) w10.heap.size 3 ?hg (N := 32) ?hd (xs := ([] : List Int)) (inner := []) (ok := fun _ => True) (okp := fun _ => True) ?hr ?hp (fun _ hk => hk) trivial (Below.refl _ _) (Nat.le_refl _) (by simp) ?_; (case hd => rfl); (case hg => rfl); (case hr => first | (go_simp; done) | (go_simp; rfl)); (case hp => exact (Reps.none _ _)); intro ve w11 hE hbE hgE hnE; obtain ⟨Ae, ce, eqE⟩ := Kd.R_slice hE; subst eqE; have HE := Aside0.mk hE; have HBE := Aside0.mk hbE; clear hE hbE hgE hnE)
      | (at_builtin; refine Kd.R_append_rows (Kd.int .i64) (w0 := w10) w10.heap.size rfl (.tmp 32) (.tmp 33) 22 3 (.int .i64 0) 8 rfl Try.underlying22 info3 rfl (by decide) (by omega) (.slice Ae ([] : List Int).length ce) ([] : List Int) R An R.length cn (fun _ => True) (fun _ => False) rfl rfl ?aO ?aR (fun _ _ h => h) (fun _ h => h.elim) ?aF ?aB ?aS ?aL ?_; (case aR => exact Kd.C_below CN.out HBE.out); (case aO => exact HE.out); (case aB => exact HBE.out); (case aF => exact (fun _ _ => trivial)); (case aS => exact HBE.out.size); (case aL => have := RL.out; simp only [List.length_nil]; omega); intro vw w12 hW hbW hgW hatW; rw [List.nil_append] at hW; obtain ⟨Aw, cw, eqW⟩ := Kd.R_slice hW; subst eqW; have HWR := Aside0.mk hW; have HBW := Aside0.mk hbW; clear hW hbW hgW hatW))
    have HW12 := Aside0.mk (below_step HB10.out HBW.out)
    have HD12 := Aside0.mk (below_step HB9.out HW12.out)
    have HN12 := Aside0.mk (below_step HB8.out HD12.out)
    obtain ⟨gN, hgN, hN⟩ := rowR_of (0 : Int) (Q := IsI) (fun x => ⟨x, rfl⟩) HRN.out
    obtain ⟨gD, hgD, hD⟩ := rowsS_of false (Q := IsB) (fun x => ⟨x, rfl⟩) HSD.out
    obtain ⟨gU, hgU, hU⟩ := rowsS_of (0 : Int) (Q := IsI) (fun x => ⟨x, rfl⟩) HSU.out
    have GN := Aside0.mk hgN
    have GD := Aside0.mk hgD
    have GU := Aside0.mk hgU
    have RN := Aside0.mk (hN.below HN12.out)
    have RD := Aside0.mk (hD.below HD12.out)
    have RU := Aside0.mk (hU.below HBW.out)
    have LDl := Aside0.mk (show (T.map List.length).length = T.length from List.length_map ..)
    have LUl := Aside0.mk (show (U.map List.length).length = U.length from List.length_map ..)
    have HW := Aside0.mk (show ∀ k, w10.heap.size ≤ k → w12.heap[k]? = w12.heap[k]? from fun _ _ => rfl)
    have SZ := Aside0.mk (And.intro N6.out (And.intro N7.out (And.intro N8.out N9.out)))
    replace HB := Aside0.mk (below_step HB.out HBW.out)
    clear hgN hgD hgU hN hD hU HW12 HD12 HN12 HB8 HB9 HB10 HN10 HRN HSD HSU CN HBE HE HBW N6 N7 N8 N9
    generalize T.map List.length = LD at *
    generalize U.map List.length = LU at *
    go_wp2
    go_loopw [11] (fun v11 wr => ∃ i : Nat, i ≤ R.length ∧ v11 = .int .i64 i ∧ Aside0 (RowP IsI wr w6.heap.size w7.heap.size gN R.length) ∧ Aside0 (RowsP IsB wr w7.heap.size w8.heap.size gD LD) ∧ Aside0 (RowsP IsI wr w9.heap.size w10.heap.size gU LU) ∧ Aside0 (∀ k, w10.heap.size ≤ k → wr.heap[k]? = w12.heap[k]?) ∧ Aside0 (Below w6.heap.size w6 wr)) (fun v11 _ => R.length - (intOf v11).toNat)
    case atStart => exact ⟨0, Nat.zero_le _, rfl, RN, RD, RU, ⟨fun _ _ => rfl⟩, HB⟩
    case round =>
      clear RN RD RU HW HB
      obtain ⟨i, hi, rfl, RN, RD, RU, HW, HB⟩ := hrel
      have hrl := RL.out
      by_cases hlt : i < R.length
      · obtain rfl := GN.out (by omega)
        obtain ⟨b1, b2, ⟨z, hz, z', rfl⟩, hf⟩ := RN.out i hlt
        have e0 : decide ((i : Int) < (R.length : Int)) = true := decide_eq_true (by omega)
        have p0 := eq_true (show 0 ≤ (i : Int) by omega)
        have q0 := eq_true (show (i : Int) < (R.length : Int) by omega)
        have B1 := Aside0.mk b1
        have B2' := Aside0.mk b2
        clear b1 b2
        go_wp2
        go_roundw
        case rel =>
          have h1 := B1.out
          have h2 := B2'.out
          have h3 := SZ.out
          have h4 := LDl.out
          have h5 := LUl.out
          exact ⟨i + 1, hlt, by go_num, ⟨RN.out.set _ ⟨9, rfl⟩⟩, ⟨RD.out.far (fun h0 e => by rw [add_block] at e; have := (GD.out (by omega)).2; omega) (by rw [add_block]; omega) _⟩, ⟨RU.out.far (fun h0 e => by rw [add_block] at e; have := (GU.out (by omega)).2; omega) (by rw [add_block]; omega) _⟩, ⟨far_blk HW.out (by rw [add_block]; omega)⟩, ⟨HB.out.setCell (by rw [add_block]; omega) _⟩⟩
        case measure => simp [intOf]; omega
      · have e0 : decide ((i : Int) < (R.length : Int)) = false := decide_eq_false (by omega)
        obtain rfl : i = R.length := by omega
        clear hlt hi
        go_wp2
        clear e0 hrl RN
        go_loopw [12] (fun v12 wr => ∃ i : Nat, i ≤ T.length ∧ v12 = .int .i64 i ∧ Aside0 (RowsP IsB wr w7.heap.size w8.heap.size gD LD) ∧ Aside0 (RowsP IsI wr w9.heap.size w10.heap.size gU LU) ∧ Aside0 (∀ k, w10.heap.size ≤ k → wr.heap[k]? = w12.heap[k]?) ∧ Aside0 (Below w6.heap.size w6 wr)) (fun v12 _ => T.length - (intOf v12).toNat)
        case atStart => exact ⟨0, Nat.zero_le _, rfl, RD, RU, HW, HB⟩
        case round =>
          clear RD RU HW HB
          obtain ⟨i, hi, rfl, RD, RU, HW, HB⟩ := hrel
          have htl := TL.out
          by_cases hlt : i < T.length
          · obtain ⟨rfl, hg⟩ := GD.out (by omega)
            have GB := Aside0.mk hg
            have e0 : decide ((i : Int) < (T.length : Int)) = true := decide_eq_true (by omega)
            have HLT := Aside0.mk hlt
            have PI := Aside0.mk (show 0 ≤ (i : Int) by omega)
            have QI := Aside0.mk (show (i : Int) < (T.length : Int) by omega)
            clear hg
            go_wp2
            obtain ⟨wo, rfl⟩ : ∃ wo : World, wo = wr := ⟨_, rfl⟩
            clear hlt e0
            go_loopw [13] (fun v13 wr => ∃ q : Nat, q ≤ LD.getD i 0 ∧ v13 = .int .i64 q ∧ Aside0 (RowsP IsB wr w7.heap.size w8.heap.size gD LD) ∧ Aside0 (RowsP IsI wr w9.heap.size w10.heap.size gU LU) ∧ Aside0 (∀ k, w10.heap.size ≤ k → wr.heap[k]? = w12.heap[k]?) ∧ Aside0 (Below w6.heap.size w6 wr)) (fun v13 _ => LD.getD i 0 - (intOf v13).toNat)
            case atStart => exact ⟨0, Nat.zero_le _, rfl, RD, RU, HW, HB⟩
            case round =>
              clear RD RU HW HB
              obtain ⟨q, hq, rfl, RD, RU, HW, HB⟩ := hrel
              obtain ⟨Ai, ci, hh, hrow⟩ := RD.out i (by rw [LDl.out]; exact HLT.out)
              have HROW := Aside0.mk hrow
              have htl := TL.out
              have hli := TI.out i
              have p0 := eq_true PI.out
              have q0 := eq_true QI.out
              clear hrow
              by_cases hlt2 : q < LD.getD i 0
              · obtain ⟨ai, rfl, hge, hle, hne, ⟨zz, hz, z, rfl⟩, hfz⟩ := HROW.out q hlt2
                have e1 : decide ((q : Int) < ((LD.getD i 0 : Nat) : Int)) = true := decide_eq_true (by omega)
                generalize hlg : LD.getD i 0 = li at *
                have p1 : 0 ≤ (q : Int) := by omega
                have q1 : (q : Int) < (li : Int) := by omega
                have p2 := eq_true p1
                have q2 := eq_true q1
                have HX := Aside0.mk (And.intro hge (And.intro hle hne))
                clear hge hle hne p1 q1
                go_wp2
                go_still_tail 14, (by kernel_rfl)
                change wpList _ _ _ _ _ wr.drew
                go_wp2
                go_roundw
                case rel =>
                  obtain ⟨hge, hle, hne⟩ := HX.out
                  have h3 := SZ.out
                  have h5 := LUl.out
                  have RD2 : RowsP IsB wr.drew w7.heap.size w8.heap.size gD LD := RD.out
                  have RU2 : RowsP IsI wr.drew w9.heap.size w10.heap.size gU LU := RU.out
                  have HW2 : ∀ k, w10.heap.size ≤ k → wr.drew.heap[k]? = w12.heap[k]? := HW.out
                  exact ⟨q + 1, hlt2, by go_num, ⟨RD2.set (by rw [add_block]; exact hne) ⟨_, rfl⟩⟩, ⟨RU2.far (fun h0 e => by rw [add_block] at e; have := (GU.out (by omega)).2; omega) (by rw [add_block]; omega) _⟩, ⟨far_blk HW2 (by rw [add_block]; omega)⟩, ⟨(below_drew HB.out).setCell (by rw [add_block]; omega) _⟩⟩
                case measure => simp [intOf]; omega
              · have e1 : decide ((q : Int) < ((LD.getD i 0 : Nat) : Int)) = false := decide_eq_false (by omega)
                obtain rfl : q = LD.getD i 0 := by omega
                have hlt := HLT.out
                go_wp2
                go_roundw
                case rel => exact ⟨i + 1, hlt, by go_num, RD, RU, HW, HB⟩
                case measure => simp [intOf]; omega
          · have e0 : decide ((i : Int) < (T.length : Int)) = false := decide_eq_false (by omega)
            obtain rfl : i = T.length := by omega
            clear hlt hi
            go_wp2
            clear e0 htl RD
            go_loopw [14] (fun v14 wr => ∃ i : Nat, i ≤ U.length ∧ v14 = .int .i64 i ∧ Aside0 (RowsP IsI wr w9.heap.size w10.heap.size gU LU) ∧ Aside0 (∀ k, w10.heap.size ≤ k → wr.heap[k]? = w12.heap[k]?) ∧ Aside0 (Below w6.heap.size w6 wr)) (fun v14 _ => U.length - (intOf v14).toNat)
            case atStart => exact ⟨0, Nat.zero_le _, rfl, RU, HW, HB⟩
            case round =>
              clear RU HW HB
              obtain ⟨i, hi, rfl, RU, HW, HB⟩ := hrel
              have hul := UL.out
              by_cases hlt : i < U.length
              · obtain ⟨rfl, hg⟩ := GU.out (by omega)
                have GB := Aside0.mk hg
                have e0 : decide ((i : Int) < (U.length : Int)) = true := decide_eq_true (by omega)
                have HLT := Aside0.mk hlt
                have PI := Aside0.mk (show 0 ≤ (i : Int) by omega)
                have QI := Aside0.mk (show (i : Int) < (U.length : Int) by omega)
                clear hg
                go_wp2
                obtain ⟨wo, rfl⟩ : ∃ wo : World, wo = wr := ⟨_, rfl⟩
                clear hlt e0
                go_loopw [15] (fun v15 wr => ∃ q : Nat, q ≤ LU.getD i 0 ∧ v15 = .int .i64 q ∧ Aside0 (RowsP IsI wr w9.heap.size w10.heap.size gU LU) ∧ Aside0 (∀ k, w10.heap.size ≤ k → wr.heap[k]? = w12.heap[k]?) ∧ Aside0 (Below w6.heap.size w6 wr)) (fun v15 _ => LU.getD i 0 - (intOf v15).toNat)
                case atStart => exact ⟨0, Nat.zero_le _, rfl, RU, HW, HB⟩
                case round =>
                  clear RU HW HB
                  obtain ⟨q, hq, rfl, RU, HW, HB⟩ := hrel
                  obtain ⟨Ai, ci, hh, hrow⟩ := RU.out i (by rw [LUl.out]; exact HLT.out)
                  have HROW := Aside0.mk hrow
                  have hul := UL.out
                  have hli := UI.out i
                  have p0 := eq_true PI.out
                  have q0 := eq_true QI.out
                  clear hrow
                  by_cases hlt2 : q < LU.getD i 0
                  · obtain ⟨ai, rfl, hge, hle, hne, ⟨zz, hz, z, rfl⟩, hfz⟩ := HROW.out q hlt2
                    have e1 : decide ((q : Int) < ((LU.getD i 0 : Nat) : Int)) = true := decide_eq_true (by omega)
                    generalize hlg : LU.getD i 0 = li at *
                    have p1 : 0 ≤ (q : Int) := by omega
                    have q1 : (q : Int) < (li : Int) := by omega
                    have p2 := eq_true p1
                    have q2 := eq_true q1
                    have HX := Aside0.mk (And.intro hge (And.intro hle hne))
                    clear hge hle hne p1 q1
                    go_wp2
                    go_roundw
                    case rel =>
                      obtain ⟨hge, hle, hne⟩ := HX.out
                      have h3 := SZ.out
                      exact ⟨q + 1, hlt2, by go_num, ⟨RU.out.set (by rw [add_block]; exact hne) ⟨_, rfl⟩⟩, ⟨far_blk HW.out (by rw [add_block]; omega)⟩, ⟨HB.out.setCell (by rw [add_block]; omega) _⟩⟩
                    case measure => simp [intOf]; omega
                  · have e1 : decide ((q : Int) < ((LU.getD i 0 : Nat) : Int)) = false := decide_eq_false (by omega)
                    obtain rfl : q = LU.getD i 0 := by omega
                    have hlt := HLT.out
                    go_wp2
                    go_roundw
                    case rel => exact ⟨i + 1, hlt, by go_num, RU, HW, HB⟩
                    case measure => simp [intOf]; omega
              · have e0 : decide ((i : Int) < (U.length : Int)) = false := decide_eq_false (by omega)
                obtain rfl : i = U.length := by omega
                have hw2 := Kd.R_move (Kd.R_tight rfl HWR.out) (w1 := wr) (fun k hk => HW.out k (Kd.R_base HWR.out k hk.symm))
                have CW := Aside0.mk (Kd.R_reads' hw2).2.2
                have MW := Aside0.mk (Kd.R_reads' hw2).2.1
                clear hlt hi hw2 RU HW HWR
                have hx1_0 := bx_cell BX1.out HB.out 0 (v := .int .i64 f.f0) rfl
                have hx1_1 := bx_cell BX1.out HB.out 1 (v := .int .i64 f.f1) rfl
                have hx1_2 := bx_cell BX1.out HB.out 2 (v := .slice A2 f.f2.length c2) rfl
                have hx1_3 := bx_cell BX1.out HB.out 3 (v := .slice A3 f.f3.length c3) rfl
                have hx7_0 := bx_cell BX7.out HB.out 0 (v := .int .i64 f.f0) rfl
                have hx7_1 := bx_cell BX7.out HB.out 1 (v := .int .i64 f.f1) rfl
                have hx7_2 := bx_cell BX7.out HB.out 2 (v := .slice B2 f.f2.length d2) rfl
                have hx7_3 := bx_cell BX7.out HB.out 3 (v := .slice B3 f.f3.length d3) rfl
                go_wp2_with (fail)
                refine (Says.yes (sameFunc_any (w := wr) f f B2 B3 A2 A3 d2 d3 c2 c3 (Kd.C_below O2.out HB.out) (Kd.C_below O3.out HB.out) (Kd.C_below H2.out HB.out) (Kd.C_below H3.out HB.out)) rfl).mono ?_
                rintro e w13 ⟨rfl, hb⟩
                replace CW := Aside0.mk (Kd.C_below CW.out hb)
                replace HB := Aside0.mk (below_step HB.out hb)
                clear hb hx1_0 hx1_1 hx1_2 hx1_3 hx7_0 hx7_1 hx7_2 hx7_3
                have hx7_0 := bx_cell BX7.out HB.out 0 (v := .int .i64 f.f0) rfl
                have hx7_1 := bx_cell BX7.out HB.out 1 (v := .int .i64 f.f1) rfl
                have hx7_2 := bx_cell BX7.out HB.out 2 (v := .slice B2 f.f2.length d2) rfl
                have hx7_3 := bx_cell BX7.out HB.out 3 (v := .slice B3 f.f3.length d3) rfl
                go_wp2_with (fail)
                refine (dom_Nearest.calls kn f.f0 f.f1 B2 d2 f.f2 B3 d3 f.f3 R w13 (Kd.C_below O2.out HB.out) M2.out (Kd.C_below O3.out HB.out) M3.out KN.out).mono ?_
                rintro e w14 ⟨vn, rfl, hR, hb⟩
                obtain ⟨An2, cn2, rfl⟩ := Kd.R_slice hR
                obtain ⟨_, hm, hC⟩ := Kd.R_reads' hR
                have CN2 := Aside0.mk hC
                have MN2 := Aside0.mk hm
                replace CW := Aside0.mk (Kd.C_below CW.out hb)
                replace HB := Aside0.mk (below_step HB.out hb)
                clear hb hR hm hC hx7_0 hx7_1 hx7_2 hx7_3
                go_wp2_with (fail)
                refine (fettlelaw05_Ints.calls ki An2 cn2 R Aw cw R true w14 CN2.out MN2.out CW.out MW.out KI.out).mono ?_
                rintro e w15 ⟨rfl, hb⟩
                replace HB := Aside0.mk (below_step HB.out (by first | exact hb.below | exact hb))
                clear hb CN2 MN2 CW MW
                have hx7_0 := bx_cell BX7.out HB.out 0 (v := .int .i64 f.f0) rfl
                have hx7_1 := bx_cell BX7.out HB.out 1 (v := .int .i64 f.f1) rfl
                have hx7_2 := bx_cell BX7.out HB.out 2 (v := .slice B2 f.f2.length d2) rfl
                have hx7_3 := bx_cell BX7.out HB.out 3 (v := .slice B3 f.f3.length d3) rfl
                go_wp2_with (fail)
                refine (dom_Frontier.calls kx f.f0 f.f1 B2 d2 f.f2 B3 d3 f.f3 X w15 (Kd.C_below O2.out HB.out) M2.out (Kd.C_below O3.out HB.out) M3.out KX.out).mono ?_
                rintro e w16 ⟨vx, rfl, hS, hb⟩
                obtain ⟨Ax2, cx2, rfl⟩ := Kd.S_slice hS
                replace HB := Aside0.mk (below_step HB.out hb)
                clear hb hS hx7_0 hx7_1 hx7_2 hx7_3
                go_wp2
                go_ret
                exact ⟨by simp, below_step H0.out HB.out⟩
end Go.Proofs.Ytpionncanaamgaa.Lk
