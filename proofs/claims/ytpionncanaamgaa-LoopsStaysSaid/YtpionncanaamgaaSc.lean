/- LoopsStays: whatever the function, the law returns true. Conditions: none. -/
import Derived.Test.YtpionncanaamgaaSd
import Derived.Test.YtpionncanaamgaaMc
import Derived.Test.YtpionncanaamgaaMd
import Derived.Test.YtpionncanaamgaaPureLoopsStays
namespace Go.Proofs.Ytpionncanaamgaa.Lk
open Go.RowKit Go.Proofs.YtpionncanaamgaaW.PrintWords Go.Proofs.YtpionncanaamgaaW.PrintLast Go.Proofs.YtpionncanaamgaaW.PrintMore Go.Proofs.YtpionncanaamgaaW.PrintWords.Kd Go.Proofs.Ytpionncanaamgaa.PLoopsStays Go.Proofs.Ytpionncanaamgaa.Lp
attribute [local go_sem] max2_int min2_int max_two min_two max_three min_three max_four min_four
set_option linter.unusedVariables false
set_option linter.unusedSimpArgs false
variable {w w1 : World}
theorem far_blk {w : World} {p : Addr} {v : Value} {hi : Nat} {w0 : World} (h : ∀ k, hi ≤ k → w.heap[k]? = w0.heap[k]?) (hp : p.block < hi) : ∀ k, hi ≤ k → (w.setCell p v).heap[k]? = w0.heap[k]? := fun k hk =>
  (Below.heap_setCell w p v k (by omega)).trans (h k hk)
/-- Loops in a row at block g: their heads and their rows of blocks may be written. -/
def RowsL (w : World) (lo hi g : Nat) (L : List Nat) : Prop :=
  ∀ i, i < L.length → ∃ Ai ci, (∃ z : Int, w.cell? ⟨g, i * 3, none⟩ = some (.int .i64 z)) ∧ w.frozen? ⟨g, i * 3, none⟩ = false ∧ w.cell? ⟨g, i * 3 + 1, none⟩ = some (.slice Ai (L.getD i 0) ci) ∧
    ∀ k, k < L.getD i 0 → ∃ ai, Ai = some ai ∧ lo ≤ ai.block ∧ ai.block < hi ∧ ai.block ≠ g ∧ (∃ z : Int, w.cell? (ai.add k) = some (.int .i64 z)) ∧ w.frozen? (ai.add k) = false
theorem cell_set {w : World} {p a : Addr} {z z' : Int} (h : w.cell? a = some (.int .i64 z)) : ∃ y : Int, (w.setCell p (.int .i64 z')).cell? a = some (.int .i64 y) := by
  by_cases e : p = a
  · rw [e]
    exact ⟨z', World.cell?_setCell_same _ _ _ h⟩
  · exact ⟨z, (World.cell?_setCell_other _ _ _ _ e).trans h⟩
theorem RowsL.set {lo hi g : Nat} {L : List Nat} (h : RowsL w lo hi g L) {p : Addr} (hp : p.block ≠ g ∨ ∃ j, p = ⟨g, j * 3, none⟩) (z' : Int) : RowsL (w.setCell p (.int .i64 z')) lo hi g L := by
  intro i hi
  obtain ⟨Ai, ci, ⟨z, h1⟩, h2, h3, h4⟩ := h i hi
  refine ⟨Ai, ci, cell_set h1, (World.frozen?_setCell _ _ _ _).trans h2, (World.cell?_setCell_other _ _ _ _ (fun e => ?_)).trans h3, fun k hk => ?_⟩
  · rcases hp with hp | ⟨j, rfl⟩
    · exact hp (by rw [e])
    · injection e with _ e _
      omega
  · obtain ⟨ai, e1, e2, e3, e4, ⟨y, e5⟩, e6⟩ := h4 k hk
    exact ⟨ai, e1, e2, e3, e4, cell_set e5, (World.frozen?_setCell _ _ _ _).trans e6⟩
theorem RowsL.below {lo hi g : Nat} {L : List Nat} (h : RowsL w lo hi g L) (hb : Below w.heap.size w w1) : RowsL w1 lo hi g L := by
  have fr : ∀ {a : Addr} {v : Value}, w.cell? a = some v → w.frozen? a = false → w1.frozen? a = false := fun {a v} hc hf => by
    have := hb.block _ (World.block_lt_of_cell? w _ hc)
    unfold World.frozen? at hf ⊢
    rw [this]
    exact hf
  intro i hi
  obtain ⟨Ai, ci, ⟨z, h1⟩, h2, h3, h4⟩ := h i hi
  refine ⟨Ai, ci, ⟨z, (hb.cell (World.block_lt_of_cell? w _ h1)).trans h1⟩, fr h1 h2, (hb.cell (World.block_lt_of_cell? w _ h3)).trans h3, fun k hk => ?_⟩
  obtain ⟨ai, e1, e2, e3, e4, ⟨y, e5⟩, e6⟩ := h4 k hk
  exact ⟨ai, e1, e2, e3, e4, ⟨y, (hb.cell (World.block_lt_of_cell? w _ e5)).trans e5⟩, fr e5 e6⟩
theorem rowsL_of {base g cap n : Nat} {G : List S44} (h : Kd.R k44 44 w base (fun _ => True) (.slice (some ⟨g, 0, none⟩) n cap) G) : RowsL w base w.heap.size g (G.map fun x => x.f1.length) := by
  obtain ⟨hn, _, _⟩ := Kd.R_reads' h
  intro i hi
  rw [List.length_map] at hi
  obtain ⟨c, _, hM, hcc, hfr⟩ := Kd.R_elem h z44 (i : Int) (by omega) (by omega)
  rw [Int.toNat_natCast] at hM hcc hfr
  obtain ⟨v1, v2, rfl, hR1, hR2⟩ := k44_openM hM
  obtain ⟨Ai, ci, rfl⟩ := Kd.R_slice hR1
  have hl : (G.map fun x => x.f1.length).getD i 0 = (G.getD i z44).f1.length := by
    rw [List.getD_eq_getElem?_getD, List.getD_eq_getElem?_getD, List.getElem?_map, List.getElem?_eq_getElem hi]
    rfl
  rw [hl]
  have hcc2 : ∀ j u, [Value.int .i64 (G.getD i z44).f0, Value.slice Ai (G.getD i z44).f1.length ci, v2][j]? = some u → w.cell? ⟨g, i * 3 + j, none⟩ = some u := hcc
  have hfr2 : ∀ j, w.frozen? ⟨g, i * 3 + j, none⟩ = false := by first | exact hfr | exact fun j => (hfr.2 j) | exact hfr.2
  refine ⟨Ai, ci, ⟨_, hcc2 0 _ rfl⟩, hfr2 0, hcc2 1 _ rfl, fun k hk => ?_⟩
  obtain ⟨gi, cap2, he, h1', h2, cells, h3⟩ := Kd.R_form hR1 (by omega)
  injection he with he1 he2 he3
  subst he1
  obtain ⟨r1, r2, ⟨z, r3, ⟨y, rfl⟩⟩, r4⟩ := rowP_of (0 : Int) (Q := fun v => ∃ y : Int, v = .int .i64 y) (fun x => ⟨x, rfl⟩) hR1 k hk
  exact ⟨⟨gi, 0, none⟩, rfl, r1, r2, fun e => (hR1.1 gi (by simp [Value.ownBlock])).2 e, ⟨y, r3⟩, r4⟩
theorem rowsLS_of {base n cap : Nat} {A : Option Addr} {G : List S44} (h : Kd.S k44 44 w base (fun _ => True) (.slice A n cap) G) :
    ∃ g : Nat, (0 < G.length → A = some ⟨g, 0, none⟩ ∧ base ≤ g ∧ g < w.heap.size) ∧ RowsL w base w.heap.size g (G.map fun x => x.f1.length) := by
  by_cases h0 : 0 < G.length
  · obtain ⟨g, cap2, he, h1, h2, _⟩ := Kd.R_form (Kd.S_R h) h0
    injection he with he1 he2 he3
    subst he1
    exact ⟨g, fun _ => ⟨rfl, h1, h2⟩, rowsL_of (Kd.S_R h)⟩
  · exact ⟨0, fun h => absurd h h0, fun i hi => by rw [List.length_map] at hi; omega⟩
theorem getD_map_f1 {T : List S44} {n : Nat} (h : ∀ i, i < T.length → (T.getD i z44).f1.length ≤ n) (i : Nat) : (T.map fun x => x.f1.length).getD i 0 ≤ n := by
  by_cases hi : i < T.length
  · have := h i hi
    rw [List.getD_eq_getElem?_getD, List.getElem?_map, List.getElem?_eq_getElem hi]
    rw [List.getD_eq_getElem?_getD, List.getElem?_eq_getElem hi] at this
    exact this
  · rw [List.getD_eq_getElem?_getD, List.getElem?_eq_none (by rw [List.length_map]; omega)]
    exact Nat.zero_le _
set_option maxHeartbeats 16000000 in
set_option maxRecDepth 100000 in
theorem loopsStays_any (f : Fn) (A2 A3 : Option Addr) (c2 c3 : Nat) (h2 : Kd.C (Kd.int .i64) w A2 f.f2.length f.f2) (l2 : f.f2.length ≤ c2) (h3 : Kd.C k52 w A3 f.f3.length f.f3) (l3 : f.f3.length ≤ c3) :
    Calls Try.prog 10 #[.agg #[.int .i64 f.f0, .int .i64 f.f1, .slice A2 f.f2.length c2, .slice A3 f.f3.length c3]] w fun e w' => e = .returned (.bool true) ∧ Below w.heap.size w w' := by
  obtain ⟨sm, hsm, hok⟩ := small_mod [f]
  obtain ⟨ks, hks⟩ := (show Ev (fun k => fettlelaw07_small.f k f.f0 f.f1 f.f2 f.f3) sm from Ev.bind (f := fun _ (t : Bool) => some t) hsm (Ev.now sm)).rounds
  obtain ⟨ku, hku⟩ := Pure.up7_ev.rounds
  have H2 := Aside0.mk h2
  have L2 := Aside0.mk l2
  have H3 := Aside0.mk h3
  have L3 := Aside0.mk l3
  have HKS := Aside0.mk hks
  have HKU := Aside0.mk hku
  have HOK := Aside0.mk hok
  clear h2 l2 h3 l3 hsm hks hku hok
  go_enter Try.func10, Try.ntmps10
  go_wp2_with ((with_reducible refine gate_dst (N := 1) rfl ?_); refine box_event ?hg (N := 1) ?hd (cs := #[.int .i64 f.f0, .int .i64 f.f1, .slice A2 f.f2.length c2, .slice A3 f.f3.length c3]) (t := 25) ?hr ?_; (case hd => rfl); (case hg => rfl); (case hr => first | (go_simp; done) | (go_simp; rfl)); intro gb1 hg w2 hbox hb; have BX1 := Aside0.mk hbox; have H0 := Aside0.mk hb; have HG1 := Aside0.mk hg; have HB := Aside0.mk (Below.refl w2.heap.size w2); clear hbox hb hg; have hx1_0 : w2.cell? ⟨gb1, 0, none⟩ = some (.int .i64 f.f0) := (blk_cell BX1.out 0).trans rfl; have hx1_1 : w2.cell? ⟨gb1, 1, none⟩ = some (.int .i64 f.f1) := (blk_cell BX1.out 1).trans rfl; have hx1_2 : w2.cell? ⟨gb1, 2, none⟩ = some (.slice A2 f.f2.length c2) := (blk_cell BX1.out 2).trans rfl; have hx1_3 : w2.cell? ⟨gb1, 3, none⟩ = some (.slice A3 f.f3.length c3) := (blk_cell BX1.out 3).trans rfl)
  refine (fettlelaw07_up.calls ku true _ HKU.out).mono ?_
  rintro e w3 ⟨rfl, hb⟩
  replace HB := Aside0.mk (below_step HB.out hb)
  clear hb hx1_0 hx1_1 hx1_2 hx1_3
  have hx1_0 := bx_cell BX1.out HB.out 0 (v := .int .i64 f.f0) rfl
  have hx1_1 := bx_cell BX1.out HB.out 1 (v := .int .i64 f.f1) rfl
  have hx1_2 := bx_cell BX1.out HB.out 2 (v := .slice A2 f.f2.length c2) rfl
  have hx1_3 := bx_cell BX1.out HB.out 3 (v := .slice A3 f.f3.length c3) rfl
  go_wp2_with (fail)
  refine (fettlelaw07_small.calls ks f.f0 f.f1 (fun k_ => k_ < w.heap.size) A2 c2 f.f2 (fun k_ => k_ < w.heap.size) A3 c3 f.f3 sm _ (Kd.V_mk L2.out (Kd.F_below (Kd.C_F (Kd.heap_int .i64) H2.out) (below_step H0.out HB.out))) (Kd.V_mk L3.out (Kd.F_below (Kd.C_F k52_heap H3.out) (below_step H0.out HB.out))) HKS.out).mono ?_
  rintro e w4 ⟨rfl, hb⟩
  replace HB := Aside0.mk (below_step HB.out hb)
  clear hb hx1_0 hx1_1 hx1_2 hx1_3
  cases sm with
  | false =>
    go_wp2
    go_ret
    exact ⟨rfl, below_step H0.out HB.out⟩
  | true =>
    have hof : OkF f := (HOK.out rfl).each 0 (Nat.zero_lt_one)
    have s : Pure.Small f.f3 := ⟨hof.blocks, fun u hu => (hof.each u hu).tos⟩
    obtain ⟨kc, hkc⟩ := (copyF_ev f hof).rounds
    obtain ⟨G, eG, al⟩ := Pure.loops_ev f.f3 s f.f0 f.f1 f.f2
    obtain ⟨kg, hkg⟩ := eG.rounds
    have hn70 : f.f3.length ≤ 70 := hof.blocks
    have hnx := Pure.nx_len f.f3
    have HRG := Aside0.mk (show ∀ q, q < G.length → (G.getD q z44).f1.length ≤ 100 ∧ ∀ j, j < (G.getD q z44).f1.length → ∃ u : Nat, (G.getD q z44).f1.getD j 0 = (u : Int) ∧ u < f.f3.length from fun q hq => by
      obtain ⟨h, g, _⟩ := al.ok q hq
      refine ⟨by have := g.cnt; omega, fun j hj => ?_⟩
      obtain ⟨u, e, hu, _⟩ := g.dom _ (getD_mem _ j 0 hj)
      exact ⟨u, e, by omega⟩)
    have hDl : (depthV f.f3.length G).length = f.f3.length := by unfold depthV; rw [depths_len, List.length_replicate]
    obtain ⟨D, hD⟩ : ∃ D, D = depthV f.f3.length G := ⟨_, rfl⟩
    rw [← hD] at hDl
    have HD := Aside0.mk hD.symm
    have HN70 := Aside0.mk hn70
    obtain ⟨ki, hki⟩ := (Pure.ints_ev D D (by omega) rfl).rounds
    have KC := Aside0.mk hkc
    have KG := Aside0.mk hkg
    have KI := Aside0.mk hki
    have GL := Aside0.mk (show G.length ≤ 70 by have := al.cnt; omega)
    have GI := Aside0.mk (show ∀ i, (G.map fun x => x.f1.length).getD i 0 ≤ 70 from getD_map_f1 fun i hi => by obtain ⟨h, g, _⟩ := al.ok i hi; exact g.cnt)
    have GH := Aside0.mk (show ∀ i, i < G.length → ∃ h : Nat, (G.getD i z44).f0 = (h : Int) from fun i hi => by obtain ⟨h, g, _⟩ := al.ok i hi; exact ⟨h, g.head⟩)
    clear hkc eG hkg hki al hDl hD hnx s hof HOK HKS HKU hn70
    have hx1_0 := bx_cell BX1.out HB.out 0 (v := .int .i64 f.f0) rfl
    have hx1_1 := bx_cell BX1.out HB.out 1 (v := .int .i64 f.f1) rfl
    have hx1_2 := bx_cell BX1.out HB.out 2 (v := .slice A2 f.f2.length c2) rfl
    have hx1_3 := bx_cell BX1.out HB.out 3 (v := .slice A3 f.f3.length c3) rfl
    go_wp2_with (fail)
    refine (fettleref02_CopyFunc.calls kc f.f0 f.f1 A2 c2 f.f2 A3 c3 f.f3 f.f0 f.f1 f.f2 f.f3 w4 (Kd.C_below (Kd.C_below H2.out H0.out) HB.out) L2.out (Kd.C_below (Kd.C_below H3.out H0.out) HB.out) L3.out KC.out).mono ?_
    rintro e w5 ⟨v2, v3, rfl, hR2, hR3, hb⟩
    obtain ⟨B2, d2, rfl⟩ := Kd.R_slice hR2
    obtain ⟨B3, d3, rfl⟩ := Kd.R_slice hR3
    obtain ⟨_, m2, hC2⟩ := Kd.R_reads' hR2
    obtain ⟨_, m3, hC3⟩ := Kd.R_reads' hR3
    replace HB := Aside0.mk (below_step HB.out hb)
    have M2 := Aside0.mk m2
    have M3 := Aside0.mk m3
    have O2 := Aside0.mk hC2
    have O3 := Aside0.mk hC3
    clear hb hR2 hR3 m2 m3 hC2 hC3 hx1_0 hx1_1 hx1_2 hx1_3 KC
    go_upto_region 6 with (fail)
    have hb7 := below_alloc (Below.refl w5.heap.size w5) (.cells #[.int .i64 f.f0, .int .i64 f.f1, .slice B2 f.f2.length d2, .slice B3 f.f3.length d3] 25)
    have hx7 := blk_new w5 (.cells #[.int .i64 f.f0, .int .i64 f.f1, .slice B2 f.f2.length d2, .slice B3 f.f3.length d3] 25)
    generalize w5.alloc (.cells #[.int .i64 f.f0, .int .i64 f.f1, .slice B2 f.f2.length d2, .slice B3 f.f3.length d3] 25) = w6 at hb7 hx7 ⊢
    generalize w5.heap.size = gb7 at hx7 ⊢
    replace O2 := Aside0.mk (Kd.C_below O2.out hb7)
    replace O3 := Aside0.mk (Kd.C_below O3.out hb7)
    replace H0 := Aside0.mk (below_step H0.out (below_step HB.out hb7))
    replace BX1 := Aside0.mk (blk_below (blk_below BX1.out HB.out) hb7)
    replace H2 := Aside0.mk (Kd.C_below H2.out H0.out)
    replace H3 := Aside0.mk (Kd.C_below H3.out H0.out)
    have BX7 := Aside0.mk hx7
    replace HB := Aside0.mk (Below.refl w6.heap.size w6)
    clear hb7 hx7
    have hx7_0 := bx_cell BX7.out HB.out 0 (v := .int .i64 f.f0) rfl
    have hx7_1 := bx_cell BX7.out HB.out 1 (v := .int .i64 f.f1) rfl
    have hx7_2 := bx_cell BX7.out HB.out 2 (v := .slice B2 f.f2.length d2) rfl
    have hx7_3 := bx_cell BX7.out HB.out 3 (v := .slice B3 f.f3.length d3) rfl
    go_wp2_with (fail)
    refine (loops_Loops.calls kg f.f0 f.f1 B2 d2 f.f2 B3 d3 f.f3 G w6 O2.out M2.out O3.out M3.out KG.out).mono ?_
    rintro e w7 ⟨vl, rfl, hS, hb⟩
    obtain ⟨Al, cl, rfl⟩ := Kd.S_slice hS
    obtain ⟨g, hg, hL⟩ := rowsLS_of hS
    have GA := Aside0.mk hg
    have RL := Aside0.mk hL
    have N6 := Aside0.mk hb.size
    replace HB := Aside0.mk (below_step HB.out hb)
    clear hb hS hg hL hx7_0 hx7_1 hx7_2 hx7_3
    have hx7_0 := bx_cell BX7.out HB.out 0 (v := .int .i64 f.f0) rfl
    have hx7_1 := bx_cell BX7.out HB.out 1 (v := .int .i64 f.f1) rfl
    have hx7_2 := bx_cell BX7.out HB.out 2 (v := .slice B2 f.f2.length d2) rfl
    have hx7_3 := bx_cell BX7.out HB.out 3 (v := .slice B3 f.f3.length d3) rfl
    go_wp2_with (fail)
    refine (depth_any (w := w7) f B2 B3 d2 d3 (Kd.C_below O2.out HB.out) M2.out (Kd.C_below O3.out HB.out) M3.out HN70.out kg G KG.out GL.out HRG.out).mono ?_
    rintro e w8 ⟨vw, rfl, hR, hb⟩
    rw [HD.out] at hR
    obtain ⟨Aw, cw, rfl⟩ := Kd.R_slice hR
    have HWR := Aside0.mk hR
    replace RL := Aside0.mk (RL.out.below hb)
    replace HB := Aside0.mk (below_step HB.out hb)
    clear hb hR hx7_0 hx7_1 hx7_2 hx7_3
    have LGl := Aside0.mk (show (G.map fun x => x.f1.length).length = G.length from List.length_map ..)
    have HW := Aside0.mk (show ∀ k, w7.heap.size ≤ k → w8.heap[k]? = w8.heap[k]? from fun _ _ => rfl)
    generalize (G.map fun x => x.f1.length) = LG at *
    go_wp2
    go_loopw [8] (fun v8 wr => ∃ i : Nat, i ≤ G.length ∧ v8 = .int .i64 i ∧ Aside0 (RowsL wr w6.heap.size w7.heap.size g LG) ∧ Aside0 (∀ k, w7.heap.size ≤ k → wr.heap[k]? = w8.heap[k]?) ∧ Aside0 (Below w6.heap.size w6 wr)) (fun v8 _ => G.length - (intOf v8).toNat)
    case atStart => exact ⟨0, Nat.zero_le _, rfl, RL, ⟨fun _ _ => rfl⟩, HB⟩
    case round =>
      clear RL HW HB
      obtain ⟨i, hi, rfl, RL, HW, HB⟩ := hrel
      have hgl := GL.out
      by_cases hlt : i < G.length
      · obtain ⟨rfl, hg1, hg2⟩ := GA.out (by omega)
        have GB := Aside0.mk (And.intro hg1 hg2)
        obtain ⟨Ai, ci, ⟨z, hz⟩, hfz, _⟩ := RL.out i (by rw [LGl.out]; exact hlt)
        have e0 : decide ((i : Int) < (G.length : Int)) = true := decide_eq_true (by omega)
        have p0 := eq_true (show 0 ≤ (i : Int) by omega)
        have q0 := eq_true (show (i : Int) < (G.length : Int) by omega)
        have HLT := Aside0.mk hlt
        have PI := Aside0.mk (show 0 ≤ (i : Int) by omega)
        have QI := Aside0.mk (show (i : Int) < (G.length : Int) by omega)
        clear hg1 hg2
        go_upto_region 12 with (fail)
        have RL2 := Aside0.mk (RL.out.set (p := ⟨g, i * 3, none⟩) (.inr ⟨i, rfl⟩) (-1))
        have HW2 := Aside0.mk (far_blk (p := ⟨g, i * 3, none⟩) (v := .int .i64 (-1)) HW.out GB.out.2)
        have HB2 := Aside0.mk (HB.out.setCell (p := ⟨g, i * 3, none⟩) GB.out.1 (.int .i64 (-1)))
        generalize wr.setCell ⟨g, i * 3, none⟩ (.int .i64 (-1)) = wz at RL2 HW2 HB2 ⊢
        clear hz hfz RL HW HB e0 p0 q0 hlt
        go_wp2
        go_loopw [9] (fun v9 wr => ∃ q : Nat, q ≤ LG.getD i 0 ∧ v9 = .int .i64 q ∧ Aside0 (RowsL wr w6.heap.size w7.heap.size g LG) ∧ Aside0 (∀ k, w7.heap.size ≤ k → wr.heap[k]? = w8.heap[k]?) ∧ Aside0 (Below w6.heap.size w6 wr)) (fun v9 _ => LG.getD i 0 - (intOf v9).toNat)
        case atStart => exact ⟨0, Nat.zero_le _, rfl, RL2, HW2, HB2⟩
        case round =>
          clear RL2 HW2 HB2
          obtain ⟨q, hq, rfl, RL, HW, HB⟩ := hrel
          obtain ⟨Ai, ci, _, _, hs, hrow⟩ := RL.out i (by rw [LGl.out]; exact HLT.out)
          have HROW := Aside0.mk hrow
          have hgl := GL.out
          have hli := GI.out i
          have p0 := eq_true PI.out
          have q0 := eq_true QI.out
          clear hrow
          by_cases hlt2 : q < LG.getD i 0
          · obtain ⟨ai, rfl, hge, hle, hne, ⟨z, hz⟩, hfz⟩ := HROW.out q hlt2
            have e1 : decide ((q : Int) < ((LG.getD i 0 : Nat) : Int)) = true := decide_eq_true (by omega)
            generalize hlg : LG.getD i 0 = li at *
            have p1 : 0 ≤ (q : Int) := by omega
            have q1 : (q : Int) < (li : Int) := by omega
            have p2 := eq_true p1
            have q2 := eq_true q1
            have HX := Aside0.mk (And.intro hge (And.intro hle hne))
            clear hge hle hne p1 q1
            go_wp2
            go_roundw
            case rel =>
              obtain ⟨hge, hle, hne⟩ := HX.out
              exact ⟨q + 1, hlt2, by go_num, ⟨RL.out.set (.inl (by rw [add_block]; exact hne)) (-1)⟩, ⟨far_blk HW.out (by rw [add_block]; omega)⟩, ⟨HB.out.setCell (by rw [add_block]; omega) _⟩⟩
            case measure => simp [intOf]; omega
          · have e1 : decide ((q : Int) < ((LG.getD i 0 : Nat) : Int)) = false := decide_eq_false (by omega)
            obtain rfl : q = LG.getD i 0 := by omega
            have hlt := HLT.out
            go_wp2
            go_roundw
            case rel => exact ⟨i + 1, hlt, by go_num, RL, HW, HB⟩
            case measure => simp [intOf]; omega
      · have e0 : decide ((i : Int) < (G.length : Int)) = false := decide_eq_false (by omega)
        obtain rfl : i = G.length := by omega
        have hw2 := Kd.R_move (Kd.R_tight rfl HWR.out) (w1 := wr) (fun k hk => HW.out k (Kd.R_base HWR.out k hk.symm))
        have CW := Aside0.mk (Kd.R_reads' hw2).2.2
        have MW := Aside0.mk (Kd.R_reads' hw2).2.1
        clear hlt hi hw2 RL HW HWR
        have hx7_0 := bx_cell BX7.out HB.out 0 (v := .int .i64 f.f0) rfl
        have hx7_1 := bx_cell BX7.out HB.out 1 (v := .int .i64 f.f1) rfl
        have hx7_2 := bx_cell BX7.out HB.out 2 (v := .slice B2 f.f2.length d2) rfl
        have hx7_3 := bx_cell BX7.out HB.out 3 (v := .slice B3 f.f3.length d3) rfl
        go_wp2_with (fail)
        refine (loops_Loops.calls kg f.f0 f.f1 B2 d2 f.f2 B3 d3 f.f3 G wr (Kd.C_below O2.out HB.out) M2.out (Kd.C_below O3.out HB.out) M3.out KG.out).mono ?_
        rintro e w9 ⟨vk, rfl, hS, hb⟩
        obtain ⟨Ak, ck, rfl⟩ := Kd.S_slice hS
        have CK := Aside0.mk (Kd.S_reads' hS).2.2
        replace CW := Aside0.mk (Kd.C_below CW.out hb)
        have HB9 := Aside0.mk (below_step HB.out hb)
        have HB := Aside0.mk (Below.refl w9.heap.size w9)
        clear hb hS hx7_0 hx7_1 hx7_2 hx7_3 e0
        go_wp2
        go_loopw [11] (fun v11 wr => ∃ i : Nat, i ≤ G.length ∧ v11 = .int .i64 i ∧ Aside0 (Below w9.heap.size w9 wr)) (fun v11 _ => G.length - (intOf v11).toNat)
        case atStart => exact ⟨0, Nat.zero_le _, rfl, HB⟩
        case round =>
          clear HB
          obtain ⟨i, hi, rfl, HB⟩ := hrel
          have hgl := GL.out
          by_cases hlt : i < G.length
          · have e0 : decide ((i : Int) < (G.length : Int)) = true := decide_eq_true (by omega)
            have p0 : 0 ≤ (i : Int) := by omega
            have q0 : (i : Int) < (G.length : Int) := by omega
            obtain ⟨ad, A6, c6, A7, c7, ex, hy0, _⟩ := at_T44 (Kd.C_below CK.out HB.out) i p0 q0
            cases ex
            rw [Int.toNat_natCast] at hy0
            obtain ⟨h, eh⟩ := GH.out i hlt
            rw [show (rd_T44 G (i : Int)).f0 = (h : Int) from eh] at hy0
            have e1 : decide ((h : Int) < 0) = false := decide_eq_false (by omega)
            have p1 := eq_true p0
            have q1 := eq_true q0
            have HLT := Aside0.mk hlt
            clear eh p0 q0 hlt
            go_wp2
            go_roundw
            case rel => exact ⟨i + 1, HLT.out, by go_num, HB⟩
            case measure => have := HLT.out; simp [intOf]; omega
          · have e0 : decide ((i : Int) < (G.length : Int)) = false := decide_eq_false (by omega)
            obtain rfl : i = G.length := by omega
            replace CW := Aside0.mk (Kd.C_below CW.out HB.out)
            replace HB := Aside0.mk (below_step HB9.out HB.out)
            clear hlt hi HB9 CK
            have hx1_0 := bx_cell BX1.out HB.out 0 (v := .int .i64 f.f0) rfl
            have hx1_1 := bx_cell BX1.out HB.out 1 (v := .int .i64 f.f1) rfl
            have hx1_2 := bx_cell BX1.out HB.out 2 (v := .slice A2 f.f2.length c2) rfl
            have hx1_3 := bx_cell BX1.out HB.out 3 (v := .slice A3 f.f3.length c3) rfl
            have hx7_0 := bx_cell BX7.out HB.out 0 (v := .int .i64 f.f0) rfl
            have hx7_1 := bx_cell BX7.out HB.out 1 (v := .int .i64 f.f1) rfl
            have hx7_2 := bx_cell BX7.out HB.out 2 (v := .slice B2 f.f2.length d2) rfl
            have hx7_3 := bx_cell BX7.out HB.out 3 (v := .slice B3 f.f3.length d3) rfl
            go_wp2_with (fail)
            refine (Says.yes (sameFunc_any (w := wr) f f B2 B3 A2 A3 d2 d3 c2 c3 (Kd.C_below O2.out HB.out) (Kd.C_below O3.out HB.out) (Kd.C_below H2.out HB.out) (Kd.C_below H3.out HB.out)) rfl).mono ?_
            rintro e w13 ⟨rfl, hb⟩
            replace CW := Aside0.mk (Kd.C_below CW.out hb)
            replace HB := Aside0.mk (below_step HB.out hb)
            clear hb hx1_0 hx1_1 hx1_2 hx1_3 hx7_0 hx7_1 hx7_2 hx7_3
            have hx7_0 := bx_cell BX7.out HB.out 0 (v := .int .i64 f.f0) rfl
            have hx7_1 := bx_cell BX7.out HB.out 1 (v := .int .i64 f.f1) rfl
            have hx7_2 := bx_cell BX7.out HB.out 2 (v := .slice B2 f.f2.length d2) rfl
            have hx7_3 := bx_cell BX7.out HB.out 3 (v := .slice B3 f.f3.length d3) rfl
            go_wp2_with (fail)
            refine (depth_any (w := w13) f B2 B3 d2 d3 (Kd.C_below O2.out HB.out) M2.out (Kd.C_below O3.out HB.out) M3.out HN70.out kg G KG.out GL.out HRG.out).mono ?_
            rintro e w14 ⟨vn, rfl, hR, hb⟩
            rw [HD.out] at hR
            obtain ⟨An2, cn2, rfl⟩ := Kd.R_slice hR
            obtain ⟨_, hm, hC⟩ := Kd.R_reads' hR
            have CN2 := Aside0.mk hC
            have MN2 := Aside0.mk hm
            replace CW := Aside0.mk (Kd.C_below CW.out hb)
            replace HB := Aside0.mk (below_step HB.out hb)
            clear hb hR hm hC hx7_0 hx7_1 hx7_2 hx7_3
            go_wp2_with (fail)
            refine (fettlelaw05_Ints.calls ki An2 cn2 D Aw cw D true w14 CN2.out MN2.out CW.out MW.out KI.out).mono ?_
            rintro e w15 ⟨rfl, hb⟩
            replace HB := Aside0.mk (below_step HB.out (by first | exact hb.below | exact hb))
            clear hb CN2 MN2 CW MW
            go_wp2
            go_ret
            exact ⟨rfl, below_step H0.out HB.out⟩
end Go.Proofs.Ytpionncanaamgaa.Lk
