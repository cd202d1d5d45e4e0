-- Laid by a program of this session (wip/pp/patch.py over the kit's print).
import Derived.Test.YtpionncanaamgaaUp
import Derived.Test.YtpionncanaamgaaPLoopsStaysx0
import Derived.Test.YtpionncanaamgaaPLoopsStaysx6
import Derived.Test.YtpionncanaamgaaPLoopsStaysx7
import Derived.Test.YtpionncanaamgaaPLoopsStaysx10
import Derived.Test.YtpionncanaamgaaShort
namespace Go.Proofs.Ytpionncanaamgaa.PLoopsStays
open Go.Proofs.Ytpionncanaamgaa.Up Go.Proofs.Ytpionncanaamgaa.Short Go.RowKit Go.Proofs.YtpionncanaamgaaW.PrintWords Go.Proofs.YtpionncanaamgaaW.PrintLast Go.Proofs.YtpionncanaamgaaW.PrintMore Go.Proofs.YtpionncanaamgaaW.PrintWords.Kd
attribute [local go_sem] max2_int min2_int max_two min_two max_three min_three max_four min_four   -- for this text's walks alone
set_option linter.unusedVariables false
set_option linter.unusedSimpArgs false
/-! ### loops_look: function 39 (by hand: the print's own walk of its first regions, then dom.ahead's loops) -/
theorem look_Rold {α : Type} {d : Kd α} {e : Nat} {W w1 : World} {base : Nat} {ok : Nat → Prop} {u : Value} {xs : List α} (h : d.R e W base ok u xs) (hb : Below W.heap.size W w1) : d.R e w1 base (fun k => ok k ∧ k < W.heap.size) u xs :=
  R_mono (Kd.R_below (Kd.R_bound h) hb) (fun _ hk => ⟨hk.1, hk.2.2.1⟩)
theorem look_row {W : World} {ok : Nat → Prop} {A : Option Addr} {n : Nat} {xs : List (List Int)} (h : Kd.F (Kd.slice 3 (Kd.int .i64)) W ok A n xs) (i : Int) (h0 : 0 ≤ i) (h1 : i < n) :
    ∃ ad A0 c0, A = some ad ∧ W.cell? (ad.add i.toNat) = some (.slice A0 (rd_L1 xs i).length c0) ∧ (rd_L1 xs i).length ≤ c0 ∧ Kd.F (Kd.int .i64) W ok A0 (rd_L1 xs i).length (rd_L1 xs i) := by
  obtain ⟨ad, cs, he, _, hK, hcc, _⟩ := Kd.F_get h ([] : List Int) i h0 h1
  obtain ⟨A0, c0, rfl, hl, hf⟩ := Kd.FK_slice_open hK
  exact ⟨ad, A0, c0, he, by have hq := hcc 0 _ rfl; rwa [show (Kd.slice 3 (Kd.int .i64)).sz = 1 from rfl, Nat.mul_one, Nat.add_zero] at hq, hl, hf⟩
/-- An element of a row of rows is appended to and stored back. -/
theorem look_elem {b1 g co : Nat} {w : World} {X : List (List Int)} (hS : Kd.S (Kd.slice 3 (Kd.int .i64)) 22 w b1 (fun _ => True) (.slice (some ⟨g, 0, none⟩) X.length co) X) (t : Int) (h0 : 0 ≤ t) (h1 : t < (X.length : Int)) :
    ∃ (A : Option Addr) (c : Nat) (oki : Nat → Prop), w.cell? ⟨g, t.toNat, none⟩ = some (.slice A (rd_L1 X t).length c) ∧ Kd.R (Kd.int .i64) 3 w b1 oki (.slice A (rd_L1 X t).length c) (rd_L1 X t) ∧
      ∀ (W w1 : World) (v1 : Value) (l : List Int), Below w.heap.size w W → W.grownBy w1 (Value.slice A (rd_L1 X t).length c).ownBlock → Kd.R (Kd.int .i64) 3 w1 b1 (fun k_ => oki k_ ∨ True ∧ w.heap.size ≤ k_) v1 l →
        w1.cell? ⟨g, t.toNat, none⟩ = some (.slice A (rd_L1 X t).length c) ∧ w1.frozen? ⟨g, t.toNat, none⟩ = false ∧ Kd.S (Kd.slice 3 (Kd.int .i64)) 22 (w1.setCell ⟨g, t.toNat, none⟩ v1) b1 (fun _ => True) (.slice (some ⟨g, 0, none⟩) X.length co) (X.set t.toNat l) := by
  obtain ⟨oki, ce, hcl, hM, hcc, _, _, hH⟩ := Kd.S_elem hS [] t h0 h1
  obtain ⟨ve, rfl, ge⟩ := hM
  obtain ⟨A, c, hve⟩ := Kd.R_slice ge
  have e1 : (X.getD t.toNat []) = rd_L1 X t := rfl
  rw [e1] at ge hve
  subst hve
  have hv := hcc 0 _ rfl
  simp only [show (Kd.slice 3 (Kd.int .i64)).sz = 1 from rfl, Nat.mul_one, Nat.add_zero] at hv
  refine ⟨A, c, oki, hv, ge, fun W w1 v1 l hb hg hR => ?_⟩
  have H1 := Kd.H_grown (Kd.H_below (Kd.H_widen hH) hb) hg (fun k_ e_ => .inl (ge.1 k_ e_))
  obtain ⟨hc, hfr⟩ := Kd.H_at H1 h0 h1
  have hx := hc 0 _ rfl
  have hf := hfr 0
  simp only [show (Kd.slice 3 (Kd.int .i64)).sz = 1 from rfl, Nat.mul_one, Nat.add_zero] at hx hf
  obtain ⟨A2, c2, rfl⟩ := Kd.R_slice hR
  have HP := Kd.S_seg0 H1 h0 h1 (seg := [.slice A2 l.length c2]) (j := 0) (show 1 ≤ 1 from by decide) (x' := l) (Kd.M_row hR) (fun _ hk => hk)
  simp only [show (Kd.slice 3 (Kd.int .i64)).sz = 1 from rfl, Nat.mul_one, Nat.add_zero] at HP
  exact ⟨hx, hf, HP.1⟩
theorem look_more {k1 k2 : Nat} {x3 : List (List Int)} {l : List (List Int)} {n i : Int} {r : List (List Int)} (h : Aside0 (dom_ahead.l0 k2 x3 l n i = some r)) (hk : Aside0 (k2 + 1 ≤ k1)) : Aside0 (dom_ahead.l0 k1 x3 l n i = some r) := ⟨at_rounds (g := fun k => dom_ahead.l0 k x3 l n i) (fun k => (dom_ahead.mono_l k).1 _ _ _ _) (Nat.le_of_succ_le hk.out) h.out⟩
theorem look_size {b : Nat} {W w : World} (h : b ≤ W.heap.size) (hb : Below b W w) : b ≤ w.heap.size := Nat.le_trans h hb.size
theorem below_step' {b : Nat} {w W W2 : World} (h : w.heap.size ≤ b) (hB : Below w.heap.size w W) (hb : Below b W W2) : Below w.heap.size w W2 :=
  ⟨hb.os.trans hB.os, hb.tape.trans hB.tape, hb.output.trans hB.output, Nat.le_trans hB.size hb.size, fun k hk => (hb.block k (Nat.lt_of_lt_of_le hk h)).trans (hB.block k hk)⟩
def loops_look.f (k : Nat) (a0_0 : Int) (a0_1 : Int) (l0_2 : List Int) (l0_3 : List (S52)) : Option (List (List Int) × List (List Int) × List (List Bool) × List Bool) :=
  (graph_Next.f k a0_0 a0_1 l0_2 l0_3).bind fun n => (dom_Dominates.f k a0_0 a0_1 l0_2 l0_3).bind fun o => (graph_Reached.f k a0_0 a0_1 l0_2 l0_3).bind fun s => (dom_ahead.f k n).bind fun y => some (n, y, o, s)
theorem loops_look.mono : ∀ a0 a1 a2 a3 k, LeO (loops_look.f k a0 a1 a2 a3) (loops_look.f (k + 1) a0 a1 a2 a3) := by
  intro a0 a1 a2 a3 k
  unfold loops_look.f
  exact LeO.bind (graph_Next.mono _ _ _ _ _) (fun n => LeO.bind (dom_Dominates.mono _ _ _ _ _) (fun o => LeO.bind (graph_Reached.mono _ _ _ _ _) (fun s => LeO.bind (dom_ahead.mono _ _) (fun y => LeO.refl _))))
def loops_look.T1 : Bool × List (List Nat × List Nat) := (true, [([], []), ([0], [0]), ([], []), ([2, 1], [2]), ([], []), ([4, 3], [4]), ([1, 3, 5], [1, 3, 5]), ([], []), ([7, 6, 5, 0, 1, 2, 3, 4, 5, 6, 7], [6, 7])])
def loops_look.B1 : List Nat := [0, 1, 0, 7, 0, 31, 63, 0, 255]
theorem loops_look.tab1 : rtab .any (opsOf Try.f39 1) = loops_look.T1 := by kernel_rfl
theorem loops_look.bits1 : waitsOk loops_look.T1.2 loops_look.B1 = true := by kernel_rfl
set_option maxHeartbeats 8000000 in
set_option maxRecDepth 100000 in
theorem loops_look.calls (k : Nat) (a0_0 : Int) (a0_1 : Int) (A0_2 : Option Addr) (c0_2 : Nat) (l0_2 : List Int) (A0_3 : Option Addr) (c0_3 : Nat) (l0_3 : List (S52)) (r1 : List (List Int)) (r2 : List (List Int)) (r3 : List (List Bool)) (r4 : List Bool) (w : World) (hr0_2 : Kd.C (Kd.int .i64) w A0_2 l0_2.length l0_2) (hc0_2 : l0_2.length ≤ c0_2) (hr0_3 : Kd.C k52 w A0_3 l0_3.length l0_3) (hc0_3 : l0_3.length ≤ c0_3) (h : loops_look.f k a0_0 a0_1 l0_2 l0_3 = some (r1, r2, r3, r4)) :
    Calls Try.prog 39 #[.agg #[.int .i64 a0_0, .int .i64 a0_1, .slice A0_2 l0_2.length c0_2, .slice A0_3 l0_3.length c0_3]] w fun e w' => ∃ v0_ v1_ v2_ v3_ : Value, e = .returned (.agg #[v0_, v1_, v2_, v3_]) ∧ Kd.V (Kd.slice 3 (Kd.int .i64)) 22 w' w.heap.size (fun k_ => w.heap.size ≤ k_) v0_ r1 ∧ Kd.V (Kd.slice 3 (Kd.int .i64)) 22 w' w.heap.size (fun k_ => w.heap.size ≤ k_) v1_ r2 ∧ Kd.V (Kd.slice 4 Kd.bool) 34 w' w.heap.size (fun k_ => w.heap.size ≤ k_) v2_ r3 ∧ Kd.V Kd.bool 4 w' w.heap.size (fun k_ => w.heap.size ≤ k_) v3_ r4 ∧ Below w.heap.size w w' := by
  unfold loops_look.f at h
  obtain ⟨t208, hN, h⟩ := Option.bind_eq_some_iff.mp h
  obtain ⟨t211, hO, h⟩ := Option.bind_eq_some_iff.mp h
  obtain ⟨t214, hS, h⟩ := Option.bind_eq_some_iff.mp h
  obtain ⟨y0_, hY, h⟩ := Option.bind_eq_some_iff.mp h
  simp only [Option.some.injEq, Prod.mk.injEq] at h
  obtain ⟨rfl, rfl, rfl, rfl⟩ := h
  have A2 := Aside0.mk hN
  have A3 := Aside0.mk hO
  have A4 := Aside0.mk hS
  have hu25 := Try.underlying25
  have hu67 := Try.underlying67
  have HR0_2 := Aside0.mk hr0_2
  have HC0_2 := Aside0.mk hc0_2
  have HR0_3 := Aside0.mk hr0_3
  have HC0_3 := Aside0.mk hc0_3
  clear hN hO hS hr0_2 hc0_2 hr0_3 hc0_3
  have HB := Aside0.mk (Below.refl w.heap.size w)
  unfold dom_ahead.f at hY
  by_cases c5 : 0 ≤ (t208.length : Int)
  rotate_left
  · rw [if_neg c5] at hY; exact absurd hY (by simp)
  by_cases c6 : ((t208.length : Int) : Int).toNat ≤ 11728124029610
  rotate_left
  · rw [if_pos c5, if_neg c6] at hY; exact absurd hY (by simp)
  rw [if_pos c5, if_pos c6] at hY
  have c5b0 := eq_true c5
  have c5b1 : decide (0 ≤ (t208.length : Int)) = true := decide_eq_true c5
  clear c5
  have c6b0 := eq_true c6
  have c6b1 : decide (((t208.length : Int) : Int).toNat ≤ 11728124029610) = true := decide_eq_true c6
  clear c6
  obtain ⟨y218, hy_⟩ : ∃ y_ : List (List Int), y_ = (List.replicate ((t208.length : Int) : Int).toNat []) := ⟨_, rfl⟩
  replace hY : (dom_ahead.l0 k y218 t208 (t208.length : Int) 0) = some y0_ := by rw [hy_]; exact hY
  have Ny218 := Aside0.mk hy_
  clear hy_
  have H' := Aside0.mk hY
  clear hY
  go_enter Try.func39, Try.ntmps39
  try go_wp2_with (first | ((with_reducible refine gate_dst (N := 1) rfl ?_); refine box_event ?hg (N := 1) ?hd (cs := #[.int .i64 a0_0, .int .i64 a0_1, .slice A0_2 l0_2.length c0_2, .slice A0_3 l0_3.length c0_3]) (t := 25) ?hr ?_; (case hd => rfl); (case hg => rfl); (case hr => first | (go_simp; done) | (go_simp; rfl)); intro gb206 hg w7 hbox hb; have n0_ := Aside0.mk (below_step (lu HB.out) hb); have n1_ := Aside0.mk (hbox); have n2_ := Aside0.mk ((by rw [hg]; exact (below_size (lu HB.out)) : w.heap.size ≤ gb206)); have n3_ := Aside0.mk ((by rw [hg]; exact (below_size (lu HB.out)) : w.heap.size ≤ gb206)); clear HB; have HB := n0_; have BK206 := n1_; have GW206 := n2_; have GE206 := n3_; clear n0_ n1_ n2_ n3_; clear hb hbox hg) | ((with_reducible refine gate_dst (N := 2) rfl ?_); refine box_event ?hg (N := 2) ?hd (cs := #[.slice none 0 0, .slice none 0 0, .slice none 0 0, .slice none 0 0]) (t := 67) ?hr ?_; (case hd => rfl); (case hg => rfl); (case hr => first | (go_simp; done) | (go_simp; rfl)); intro gb207 hg w8 hbox hb; have n0_ := Aside0.mk (blk_below (bu BK206.out) hb); have n1_ := Aside0.mk (below_step (lu HB.out) hb); have n2_ := Aside0.mk (hbox); have n3_ := Aside0.mk ((by rw [hg]; exact (below_size (lu HB.out)) : w.heap.size ≤ gb207)); have n4_ := Aside0.mk ((by rw [hg]; exact (below_size (lu HB.out)) : w.heap.size ≤ gb207)); have n5_ := Aside0.mk ((by rw [hg]; exact Nat.ne_of_lt (blk_lt (bu BK206.out)) : gb206 ≠ gb207)); have n6_ := Aside0.mk ((by rw [hg]; exact Nat.ne_of_gt (blk_lt (bu BK206.out)) : gb207 ≠ gb206)); clear BK206; clear HB; have BK206 := n0_; have HB := n1_; have BK207 := n2_; have GW207 := n3_; have GE207 := n4_; have NB206_207 := n5_; have NB207_206 := n6_; clear n0_ n1_ n2_ n3_ n4_ n5_ n6_; clear hb hbox hg))
  have n0_ := Aside0.mk (blk_drew BK206.out)
  have n1_ := Aside0.mk (blk_drew BK207.out)
  have n2_ := Aside0.mk (below_drew1 HB.out)
  clear BK206
  clear BK207
  clear HB
  have BK206 := n0_
  have BK207 := n1_
  have HB := n2_
  clear n0_ n1_ n2_
  refine start_ (n := 9) (S := fun w' => w'.cell? ⟨gb206, 0, none⟩ = some (.int .i64 a0_0) ∧ w'.cell? ⟨gb206, 1, none⟩ = some (.int .i64 a0_1) ∧ w'.cell? ⟨gb206, 2, none⟩ = some (.slice A0_2 l0_2.length c0_2) ∧ w'.cell? ⟨gb206, 3, none⟩ = some (.slice A0_3 l0_3.length c0_3)) (ds := []) #[false, false, false, false, false, false, false, false, false] (by kernel_rfl) rfl rfl ⟨(blk_cell BK206.out 0).trans rfl, (blk_cell BK206.out 1).trans rfl, (blk_cell BK206.out 2).trans rfl, (blk_cell BK206.out 3).trans rfl⟩ (fun hHeld => ?_); refine with_tabW loops_look.tab1 loops_look.bits1 (fun HT_ HW_ => ?_)
  generalize w8.drew = w9 at BK206 BK207 HB hHeld ⊢
  refine tk 0 8 (bt 9 1) HT_.out HW_.out hHeld rfl rfl (by rintro w' ⟨s0, s1, s2, s3⟩; go_simp; with_reducible rfl) ?_
  refine tk 2 10 (bt 9 5) HT_.out HW_.out hHeld rfl rfl (by rintro w' ⟨s0, s1, s2, s3⟩; go_simp; with_reducible rfl) ?_
  refine tk 4 12 (bt 9 21) HT_.out HW_.out hHeld rfl rfl (by rintro w' ⟨s0, s1, s2, s3⟩; go_simp; with_reducible rfl) ?_
  refine join_ (σ := Value × Value × Value × Nat) 1 (bt 9 255) (fun s_ => [(9, s_.1), (11, s_.2.1), (13, s_.2.2.1), (3, .pointer (some ⟨s_.2.2.2, 0, none⟩)), (14, .agg #[s_.1, .slice none 0 0, s_.2.1, s_.2.2.1])]) (fun s_ w' => (w'.cell? ⟨gb206, 0, none⟩ = some (.int .i64 a0_0) ∧ w'.cell? ⟨gb206, 1, none⟩ = some (.int .i64 a0_1) ∧ w'.cell? ⟨gb206, 2, none⟩ = some (.slice A0_2 l0_2.length c0_2) ∧ w'.cell? ⟨gb206, 3, none⟩ = some (.slice A0_3 l0_3.length c0_3)) ∧ (Kd.S (Kd.slice 3 (Kd.int .i64)) 22 w' w.heap.size (fun _ => True) s_.1 t208) ∧ (Kd.S (Kd.slice 4 Kd.bool) 34 w' w.heap.size (fun k_ => some k_ ≠ (s_.2.2.1 : Value).ownBlock) s_.2.1 t211) ∧ (Kd.R Kd.bool 4 w' w.heap.size (fun _ => True) s_.2.2.1 t214) ∧ (w'.heap[gb206]? = some (.cells #[.int .i64 a0_0, .int .i64 a0_1, .slice A0_2 l0_2.length c0_2, .slice A0_3 l0_3.length c0_3] 25 (0, 0))) ∧ (w'.heap[gb207]? = some (.cells #[.slice none 0 0, .slice none 0 0, .slice none 0 0, .slice none 0 0] 67 (0, 0))) ∧ (w'.heap[s_.2.2.2]? = some (.cells #[.slice none 0 0, .slice none 0 0, .slice none 0 0, .slice none 0 0] 67 (0, 0))) ∧ (w.heap.size ≤ s_.2.2.2) ∧ (w.heap.size ≤ s_.2.2.2) ∧ (gb206 ≠ s_.2.2.2) ∧ (s_.2.2.2 ≠ gb206) ∧ (gb207 ≠ s_.2.2.2) ∧ (s_.2.2.2 ≠ gb207) ∧ (Below w.heap.size w w')) ?_ ?_
  rotate_left
  · intro hCont
    refine two_ (i := 1) (j := 7) (Ni := some 9) (Nj := some 3) (bt 9 23) (bt 9 149) rfl rfl rfl rfl (two_of HT_.out (by kernel_rfl)) (by decide) (by decide) (fun K hK => ?_) (fun K hK => ?_)
    · skip
      refine goes_ Try.func31 (by kernel_rfl) rfl #[.agg #[.int .i64 a0_0, .int .i64 a0_1, .slice A0_2 l0_2.length c0_2, .slice A0_3 l0_3.length c0_3]] (by rfl) rfl rfl (by (try simp only [List.map_toArray, List.map_cons, List.map_nil]); first | done | rfl) ?_
      with_reducible refine (graph_Next.calls k a0_0 a0_1 _ _ l0_2 _ _ l0_3 t208 _ ?side1 ?side2 ?side3 ?side4 A2.out).mono ?_
      (case side1 => exact cu (C_below HR0_2.out HB.out))
      (case side2 => exact HC0_2.out)
      (case side3 => exact cu (C_below HR0_3.out HB.out))
      (case side4 => exact HC0_3.out)
      rintro e w10 ⟨v209, rfl, ho0, hb⟩
      refine ⟨_, rfl, ?_⟩
      have n0_ := Aside0.mk (Kd.S_lower ho0 (below_size (lu HB.out)))
      have n1_ := Aside0.mk (blk_below (bu BK206.out) hb)
      have n2_ := Aside0.mk (blk_below (bu BK207.out) hb)
      have n3_ := Aside0.mk (below_step (lu HB.out) hb)
      clear BK206
      clear BK207
      clear HB
      have HO210 := n0_
      have BK206 := n1_
      have BK207 := n2_
      have HB := n3_
      clear n0_ n1_ n2_ n3_
      (try clear hb)
      (try clear hb2)
      (try clear hk)
      (try clear hi)
      (try clear ho0)
      refine hK.out _ _ ⟨(blk_cell BK206.out 0).trans rfl, (blk_cell BK206.out 1).trans rfl, (blk_cell BK206.out 2).trans rfl, (blk_cell BK206.out 3).trans rfl⟩ (fun hHeld => ?_)
      clear hK K
      refine norm_ (a' := ?_) ?_ ?_
      rotate_left
      · show Act.put _ (some 9) _ = _
        simp only [Act.put, List.setIfInBounds_toArray, List.set_cons_zero, List.set_cons_succ, i64_w, i32_w]
        rfl
      refine two_ (i := 3) (j := 7) (Ni := some 11) (Nj := some 3) (bt 9 31) (bt 9 151) rfl rfl rfl rfl (two_of HT_.out (by kernel_rfl)) (by decide) (by decide) (fun K hK => ?_) (fun K hK => ?_)
      · skip
        refine goes_ Try.func17 (by kernel_rfl) rfl #[.agg #[.int .i64 a0_0, .int .i64 a0_1, .slice A0_2 l0_2.length c0_2, .slice A0_3 l0_3.length c0_3]] (by rfl) rfl rfl (by (try simp only [List.map_toArray, List.map_cons, List.map_nil]); first | done | rfl) ?_
        with_reducible refine (dom_Dominates.calls k a0_0 a0_1 _ _ l0_2 _ _ l0_3 t211 _ ?side1 ?side2 ?side3 ?side4 A3.out).mono ?_
        (case side1 => exact cu (C_below HR0_2.out HB.out))
        (case side2 => exact HC0_2.out)
        (case side3 => exact cu (C_below HR0_3.out HB.out))
        (case side4 => exact HC0_3.out)
        rintro e w11 ⟨v212, rfl, ho0, hb⟩
        refine ⟨_, rfl, ?_⟩
        have n0_ := Aside0.mk (Kd.S_below (su HO210.out) hb)
        have n1_ := Aside0.mk (Kd.S_lower ho0 (below_size (lu HB.out)))
        have n2_ := Aside0.mk (blk_below (bu BK206.out) hb)
        have n3_ := Aside0.mk (blk_below (bu BK207.out) hb)
        have n4_ := Aside0.mk (below_step (lu HB.out) hb)
        clear HO210
        clear BK206
        clear BK207
        clear HB
        have HO210 := n0_
        have HO213 := n1_
        have BK206 := n2_
        have BK207 := n3_
        have HB := n4_
        clear n0_ n1_ n2_ n3_ n4_
        (try clear hb)
        (try clear hb2)
        (try clear hk)
        (try clear hi)
        (try clear ho0)
        refine hK.out _ _ ⟨(blk_cell BK206.out 0).trans rfl, (blk_cell BK206.out 1).trans rfl, (blk_cell BK206.out 2).trans rfl, (blk_cell BK206.out 3).trans rfl⟩ (fun hHeld => ?_)
        clear hK K
        refine norm_ (a' := ?_) ?_ ?_
        rotate_left
        · show Act.put _ (some 11) _ = _
          simp only [Act.put, List.setIfInBounds_toArray, List.set_cons_zero, List.set_cons_succ, i64_w, i32_w]
          rfl
        refine two_ (i := 5) (j := 7) (Ni := some 13) (Nj := some 3) (bt 9 63) (bt 9 159) rfl rfl rfl rfl (two_of HT_.out (by kernel_rfl)) (by decide) (by decide) (fun K hK => ?_) (fun K hK => ?_)
        · skip
          refine goes_ Try.func32 (by kernel_rfl) rfl #[.agg #[.int .i64 a0_0, .int .i64 a0_1, .slice A0_2 l0_2.length c0_2, .slice A0_3 l0_3.length c0_3]] (by rfl) rfl rfl (by (try simp only [List.map_toArray, List.map_cons, List.map_nil]); first | done | rfl) ?_
          with_reducible refine (graph_Reached.calls k a0_0 a0_1 _ _ l0_2 _ _ l0_3 t214 _ ?side1 ?side2 ?side3 ?side4 A4.out).mono ?_
          (case side1 => exact cu (C_below HR0_2.out HB.out))
          (case side2 => exact HC0_2.out)
          (case side3 => exact cu (C_below HR0_3.out HB.out))
          (case side4 => exact HC0_3.out)
          rintro e w12 ⟨v215, rfl, ho0, hb⟩
          refine ⟨_, rfl, ?_⟩
          have n0_ := Aside0.mk (Kd.S_below (su HO210.out) hb)
          have n1_ := Aside0.mk (Kd.S_elder' (su HO213.out) (R_base ho0) hb)
          have n2_ := Aside0.mk (Kd.R_lower ho0 (below_size (lu HB.out)))
          have n3_ := Aside0.mk (blk_below (bu BK206.out) hb)
          have n4_ := Aside0.mk (blk_below (bu BK207.out) hb)
          have n5_ := Aside0.mk (below_step (lu HB.out) hb)
          clear HO210
          clear HO213
          clear BK206
          clear BK207
          clear HB
          have HO210 := n0_
          have HO213 := n1_
          have HO216 := n2_
          have BK206 := n3_
          have BK207 := n4_
          have HB := n5_
          clear n0_ n1_ n2_ n3_ n4_ n5_
          (try clear hb)
          (try clear hb2)
          (try clear hk)
          (try clear hi)
          (try clear ho0)
          obtain ⟨Ao13, co13, eo13⟩ := Kd.R_slice HO216.out
          (first | subst eo13 | (injection eo13 with f1_ f2_ f3_; have f4_ := f1_.symm; have f5_ := f3_.symm; clear f1_ f2_ f3_; subst f4_; subst f5_))
          obtain ⟨Ao14, co14, eo14⟩ := Kd.S_slice HO213.out
          (first | subst eo14 | (injection eo14 with f1_ f2_ f3_; have f4_ := f1_.symm; have f5_ := f3_.symm; clear f1_ f2_ f3_; subst f4_; subst f5_))
          obtain ⟨Ao15, co15, eo15⟩ := Kd.S_slice HO210.out
          (first | subst eo15 | (injection eo15 with f1_ f2_ f3_; have f4_ := f1_.symm; have f5_ := f3_.symm; clear f1_ f2_ f3_; subst f4_; subst f5_))
          refine hK.out _ _ ⟨(blk_cell BK206.out 0).trans rfl, (blk_cell BK206.out 1).trans rfl, (blk_cell BK206.out 2).trans rfl, (blk_cell BK206.out 3).trans rfl⟩ (fun hHeld => ?_)
          clear hK K
          refine norm_ (a' := ?_) ?_ ?_
          rotate_left
          · show Act.put _ (some 13) _ = _
            simp only [Act.put, List.setIfInBounds_toArray, List.set_cons_zero, List.set_cons_succ, i64_w, i32_w]
            rfl
          refine pu 6 14 (bt 9 127) HT_.out ?_
          refine one_ (i := 7) (N := some 3) (bt 9 255) rfl rfl (one_of HT_.out (by kernel_rfl)) (by decide) (fun K hK => ?_)
          refine box_step ?hg (N := 3) ?hd (cs := #[.slice none 0 0, .slice none 0 0, .slice none 0 0, .slice none 0 0]) (t := 67) ?hr ?_; (case hd => rfl); (case hg => rfl); (case hr => first | (go_simp; done) | (go_simp; rfl))
          intro gb217 hg w16 hbox hb
          have n0_ := Aside0.mk (Kd.S_below (su HO210.out) hb)
          have n1_ := Aside0.mk (Kd.S_below (su HO213.out) hb)
          have n2_ := Aside0.mk (Kd.R_below (ru HO216.out) hb)
          have n3_ := Aside0.mk (blk_below (bu BK206.out) hb)
          have n4_ := Aside0.mk (blk_below (bu BK207.out) hb)
          have n5_ := Aside0.mk (below_step (lu HB.out) hb)
          have n6_ := Aside0.mk (hbox)
          have n7_ := Aside0.mk ((by rw [hg]; exact (below_size (lu HB.out)) : w.heap.size ≤ gb217))
          have n8_ := Aside0.mk ((by rw [hg]; exact (below_size (lu HB.out)) : w.heap.size ≤ gb217))
          have n9_ := Aside0.mk ((by rw [hg]; exact Nat.ne_of_lt (blk_lt (bu BK206.out)) : gb206 ≠ gb217))
          have n10_ := Aside0.mk ((by rw [hg]; exact Nat.ne_of_gt (blk_lt (bu BK206.out)) : gb217 ≠ gb206))
          have n11_ := Aside0.mk ((by rw [hg]; exact Nat.ne_of_lt (blk_lt (bu BK207.out)) : gb207 ≠ gb217))
          have n12_ := Aside0.mk ((by rw [hg]; exact Nat.ne_of_gt (blk_lt (bu BK207.out)) : gb217 ≠ gb207))
          clear HO210
          clear HO213
          clear HO216
          clear BK206
          clear BK207
          clear HB
          have HO210 := n0_
          have HO213 := n1_
          have HO216 := n2_
          have BK206 := n3_
          have BK207 := n4_
          have HB := n5_
          have BK217 := n6_
          have GW217 := n7_
          have GE217 := n8_
          have NB206_217 := n9_
          have NB217_206 := n10_
          have NB207_217 := n11_
          have NB217_207 := n12_
          clear n0_ n1_ n2_ n3_ n4_ n5_ n6_ n7_ n8_ n9_ n10_ n11_ n12_
          clear hb hbox hg
          refine hK.out _ _ ⟨(blk_cell BK206.out 0).trans rfl, (blk_cell BK206.out 1).trans rfl, (blk_cell BK206.out 2).trans rfl, (blk_cell BK206.out 3).trans rfl⟩ (fun hHeld => ?_)
          clear hK K
          refine norm_ (a' := ?_) ?_ ?_
          rotate_left
          · show Act.put _ (some 3) _ = _
            simp only [Act.put, List.setIfInBounds_toArray, List.set_cons_zero, List.set_cons_succ, i64_w, i32_w]
            rfl
          exact norm_ (by simp only [putAll, Act.put, List.setIfInBounds_toArray, List.set_cons_zero, List.set_cons_succ]) (hCont (.slice Ao15 t208.length co15, .slice Ao14 t211.length co14, .slice Ao13 t214.length co13, gb217) _ ⟨hHeld, (su HO210.out), (su (S_mono HO213.out (fun _ hk => hk.2))), (ru HO216.out), (bu BK206.out), (bu BK207.out), (bu BK217.out), GW217.out, GE217.out, NB206_217.out, NB217_206.out, NB207_217.out, NB217_207.out, (lu HB.out)⟩)
        skip
        refine box_step ?hg (N := 3) ?hd (cs := #[.slice none 0 0, .slice none 0 0, .slice none 0 0, .slice none 0 0]) (t := 67) ?hr ?_; (case hd => rfl); (case hg => rfl); (case hr => first | (go_simp; done) | (go_simp; rfl))
        intro gb217 hg w12 hbox hb
        have n0_ := Aside0.mk (Kd.S_below (su HO210.out) hb)
        have n1_ := Aside0.mk (Kd.S_below (su HO213.out) hb)
        have n2_ := Aside0.mk (blk_below (bu BK206.out) hb)
        have n3_ := Aside0.mk (blk_below (bu BK207.out) hb)
        have n4_ := Aside0.mk (below_step (lu HB.out) hb)
        have n5_ := Aside0.mk (hbox)
        have n6_ := Aside0.mk ((by rw [hg]; exact (below_size (lu HB.out)) : w.heap.size ≤ gb217))
        have n7_ := Aside0.mk ((by rw [hg]; exact (below_size (lu HB.out)) : w.heap.size ≤ gb217))
        have n8_ := Aside0.mk ((by rw [hg]; exact Nat.ne_of_lt (blk_lt (bu BK206.out)) : gb206 ≠ gb217))
        have n9_ := Aside0.mk ((by rw [hg]; exact Nat.ne_of_gt (blk_lt (bu BK206.out)) : gb217 ≠ gb206))
        have n10_ := Aside0.mk ((by rw [hg]; exact Nat.ne_of_lt (blk_lt (bu BK207.out)) : gb207 ≠ gb217))
        have n11_ := Aside0.mk ((by rw [hg]; exact Nat.ne_of_gt (blk_lt (bu BK207.out)) : gb217 ≠ gb207))
        clear HO210
        clear HO213
        clear BK206
        clear BK207
        clear HB
        have HO210 := n0_
        have HO213 := n1_
        have BK206 := n2_
        have BK207 := n3_
        have HB := n4_
        have BK217 := n5_
        have GW217 := n6_
        have GE217 := n7_
        have NB206_217 := n8_
        have NB217_206 := n9_
        have NB207_217 := n10_
        have NB217_207 := n11_
        clear n0_ n1_ n2_ n3_ n4_ n5_ n6_ n7_ n8_ n9_ n10_ n11_
        clear hb hbox hg
        refine hK.out _ _ ⟨(blk_cell BK206.out 0).trans rfl, (blk_cell BK206.out 1).trans rfl, (blk_cell BK206.out 2).trans rfl, (blk_cell BK206.out 3).trans rfl⟩ (fun hHeld => ?_)
        clear hK K
        refine norm_ (a' := ?_) ?_ ?_
        rotate_left
        · show Act.put _ (some 3) _ = _
          simp only [Act.put, List.setIfInBounds_toArray, List.set_cons_zero, List.set_cons_succ, i64_w, i32_w]
          rfl
        refine one_ (i := 5) (N := some 13) (bt 9 191) rfl rfl (one_of HT_.out (by kernel_rfl)) (by decide) (fun K hK => ?_)
        refine goes_ Try.func32 (by kernel_rfl) rfl #[.agg #[.int .i64 a0_0, .int .i64 a0_1, .slice A0_2 l0_2.length c0_2, .slice A0_3 l0_3.length c0_3]] (by rfl) rfl rfl (by (try simp only [List.map_toArray, List.map_cons, List.map_nil]); first | done | rfl) ?_
        with_reducible refine (graph_Reached.calls k a0_0 a0_1 _ _ l0_2 _ _ l0_3 t214 _ ?side1 ?side2 ?side3 ?side4 A4.out).mono ?_
        (case side1 => exact cu (C_below HR0_2.out HB.out))
        (case side2 => exact HC0_2.out)
        (case side3 => exact cu (C_below HR0_3.out HB.out))
        (case side4 => exact HC0_3.out)
        rintro e w13 ⟨v215, rfl, ho0, hb⟩
        refine ⟨_, rfl, ?_⟩
        have n0_ := Aside0.mk (Kd.S_below (su HO210.out) hb)
        have n1_ := Aside0.mk (Kd.S_elder' (su HO213.out) (R_base ho0) hb)
        have n2_ := Aside0.mk (Kd.R_lower ho0 (below_size (lu HB.out)))
        have n3_ := Aside0.mk (blk_below (bu BK206.out) hb)
        have n4_ := Aside0.mk (blk_below (bu BK207.out) hb)
        have n5_ := Aside0.mk (blk_below (bu BK217.out) hb)
        have n6_ := Aside0.mk (below_step (lu HB.out) hb)
        clear HO210
        clear HO213
        clear BK206
        clear BK207
        clear BK217
        clear HB
        have HO210 := n0_
        have HO213 := n1_
        have HO216 := n2_
        have BK206 := n3_
        have BK207 := n4_
        have BK217 := n5_
        have HB := n6_
        clear n0_ n1_ n2_ n3_ n4_ n5_ n6_
        (try clear hb)
        (try clear hb2)
        (try clear hk)
        (try clear hi)
        (try clear ho0)
        obtain ⟨Ao14, co14, eo14⟩ := Kd.R_slice HO216.out
        (first | subst eo14 | (injection eo14 with f1_ f2_ f3_; have f4_ := f1_.symm; have f5_ := f3_.symm; clear f1_ f2_ f3_; subst f4_; subst f5_))
        obtain ⟨Ao15, co15, eo15⟩ := Kd.S_slice HO213.out
        (first | subst eo15 | (injection eo15 with f1_ f2_ f3_; have f4_ := f1_.symm; have f5_ := f3_.symm; clear f1_ f2_ f3_; subst f4_; subst f5_))
        obtain ⟨Ao16, co16, eo16⟩ := Kd.S_slice HO210.out
        (first | subst eo16 | (injection eo16 with f1_ f2_ f3_; have f4_ := f1_.symm; have f5_ := f3_.symm; clear f1_ f2_ f3_; subst f4_; subst f5_))
        refine hK.out _ _ ⟨(blk_cell BK206.out 0).trans rfl, (blk_cell BK206.out 1).trans rfl, (blk_cell BK206.out 2).trans rfl, (blk_cell BK206.out 3).trans rfl⟩ (fun hHeld => ?_)
        clear hK K
        refine norm_ (a' := ?_) ?_ ?_
        rotate_left
        · show Act.put _ (some 13) _ = _
          simp only [Act.put, List.setIfInBounds_toArray, List.set_cons_zero, List.set_cons_succ, i64_w, i32_w]
          rfl
        refine pu 6 14 (bt 9 255) HT_.out ?_
        exact norm_ (by simp only [putAll, Act.put, List.setIfInBounds_toArray, List.set_cons_zero, List.set_cons_succ]) (hCont (.slice Ao16 t208.length co16, .slice Ao15 t211.length co15, .slice Ao14 t214.length co14, gb217) _ ⟨hHeld, (su HO210.out), (su (S_mono HO213.out (fun _ hk => hk.2))), (ru HO216.out), (bu BK206.out), (bu BK207.out), (bu BK217.out), GW217.out, GE217.out, NB206_217.out, NB217_206.out, NB207_217.out, NB217_207.out, (lu HB.out)⟩)
      skip
      refine box_step ?hg (N := 3) ?hd (cs := #[.slice none 0 0, .slice none 0 0, .slice none 0 0, .slice none 0 0]) (t := 67) ?hr ?_; (case hd => rfl); (case hg => rfl); (case hr => first | (go_simp; done) | (go_simp; rfl))
      intro gb217 hg w11 hbox hb
      have n0_ := Aside0.mk (Kd.S_below (su HO210.out) hb)
      have n1_ := Aside0.mk (blk_below (bu BK206.out) hb)
      have n2_ := Aside0.mk (blk_below (bu BK207.out) hb)
      have n3_ := Aside0.mk (below_step (lu HB.out) hb)
      have n4_ := Aside0.mk (hbox)
      have n5_ := Aside0.mk ((by rw [hg]; exact (below_size (lu HB.out)) : w.heap.size ≤ gb217))
      have n6_ := Aside0.mk ((by rw [hg]; exact (below_size (lu HB.out)) : w.heap.size ≤ gb217))
      have n7_ := Aside0.mk ((by rw [hg]; exact Nat.ne_of_lt (blk_lt (bu BK206.out)) : gb206 ≠ gb217))
      have n8_ := Aside0.mk ((by rw [hg]; exact Nat.ne_of_gt (blk_lt (bu BK206.out)) : gb217 ≠ gb206))
      have n9_ := Aside0.mk ((by rw [hg]; exact Nat.ne_of_lt (blk_lt (bu BK207.out)) : gb207 ≠ gb217))
      have n10_ := Aside0.mk ((by rw [hg]; exact Nat.ne_of_gt (blk_lt (bu BK207.out)) : gb217 ≠ gb207))
      clear HO210
      clear BK206
      clear BK207
      clear HB
      have HO210 := n0_
      have BK206 := n1_
      have BK207 := n2_
      have HB := n3_
      have BK217 := n4_
      have GW217 := n5_
      have GE217 := n6_
      have NB206_217 := n7_
      have NB217_206 := n8_
      have NB207_217 := n9_
      have NB217_207 := n10_
      clear n0_ n1_ n2_ n3_ n4_ n5_ n6_ n7_ n8_ n9_ n10_
      clear hb hbox hg
      refine hK.out _ _ ⟨(blk_cell BK206.out 0).trans rfl, (blk_cell BK206.out 1).trans rfl, (blk_cell BK206.out 2).trans rfl, (blk_cell BK206.out 3).trans rfl⟩ (fun hHeld => ?_)
      clear hK K
      refine norm_ (a' := ?_) ?_ ?_
      rotate_left
      · show Act.put _ (some 3) _ = _
        simp only [Act.put, List.setIfInBounds_toArray, List.set_cons_zero, List.set_cons_succ, i64_w, i32_w]
        rfl
      refine one_ (i := 3) (N := some 11) (bt 9 159) rfl rfl (one_of HT_.out (by kernel_rfl)) (by decide) (fun K hK => ?_)
      refine goes_ Try.func17 (by kernel_rfl) rfl #[.agg #[.int .i64 a0_0, .int .i64 a0_1, .slice A0_2 l0_2.length c0_2, .slice A0_3 l0_3.length c0_3]] (by rfl) rfl rfl (by (try simp only [List.map_toArray, List.map_cons, List.map_nil]); first | done | rfl) ?_
      with_reducible refine (dom_Dominates.calls k a0_0 a0_1 _ _ l0_2 _ _ l0_3 t211 _ ?side1 ?side2 ?side3 ?side4 A3.out).mono ?_
      (case side1 => exact cu (C_below HR0_2.out HB.out))
      (case side2 => exact HC0_2.out)
      (case side3 => exact cu (C_below HR0_3.out HB.out))
      (case side4 => exact HC0_3.out)
      rintro e w12 ⟨v212, rfl, ho0, hb⟩
      refine ⟨_, rfl, ?_⟩
      have n0_ := Aside0.mk (Kd.S_below (su HO210.out) hb)
      have n1_ := Aside0.mk (Kd.S_lower ho0 (below_size (lu HB.out)))
      have n2_ := Aside0.mk (blk_below (bu BK206.out) hb)
      have n3_ := Aside0.mk (blk_below (bu BK207.out) hb)
      have n4_ := Aside0.mk (blk_below (bu BK217.out) hb)
      have n5_ := Aside0.mk (below_step (lu HB.out) hb)
      clear HO210
      clear BK206
      clear BK207
      clear BK217
      clear HB
      have HO210 := n0_
      have HO213 := n1_
      have BK206 := n2_
      have BK207 := n3_
      have BK217 := n4_
      have HB := n5_
      clear n0_ n1_ n2_ n3_ n4_ n5_
      (try clear hb)
      (try clear hb2)
      (try clear hk)
      (try clear hi)
      (try clear ho0)
      refine hK.out _ _ ⟨(blk_cell BK206.out 0).trans rfl, (blk_cell BK206.out 1).trans rfl, (blk_cell BK206.out 2).trans rfl, (blk_cell BK206.out 3).trans rfl⟩ (fun hHeld => ?_)
      clear hK K
      refine norm_ (a' := ?_) ?_ ?_
      rotate_left
      · show Act.put _ (some 11) _ = _
        simp only [Act.put, List.setIfInBounds_toArray, List.set_cons_zero, List.set_cons_succ, i64_w, i32_w]
        rfl
      refine one_ (i := 5) (N := some 13) (bt 9 191) rfl rfl (one_of HT_.out (by kernel_rfl)) (by decide) (fun K hK => ?_)
      refine goes_ Try.func32 (by kernel_rfl) rfl #[.agg #[.int .i64 a0_0, .int .i64 a0_1, .slice A0_2 l0_2.length c0_2, .slice A0_3 l0_3.length c0_3]] (by rfl) rfl rfl (by (try simp only [List.map_toArray, List.map_cons, List.map_nil]); first | done | rfl) ?_
      with_reducible refine (graph_Reached.calls k a0_0 a0_1 _ _ l0_2 _ _ l0_3 t214 _ ?side1 ?side2 ?side3 ?side4 A4.out).mono ?_
      (case side1 => exact cu (C_below HR0_2.out HB.out))
      (case side2 => exact HC0_2.out)
      (case side3 => exact cu (C_below HR0_3.out HB.out))
      (case side4 => exact HC0_3.out)
      rintro e w13 ⟨v215, rfl, ho0, hb⟩
      refine ⟨_, rfl, ?_⟩
      have n0_ := Aside0.mk (Kd.S_below (su HO210.out) hb)
      have n1_ := Aside0.mk (Kd.S_elder' (su HO213.out) (R_base ho0) hb)
      have n2_ := Aside0.mk (Kd.R_lower ho0 (below_size (lu HB.out)))
      have n3_ := Aside0.mk (blk_below (bu BK206.out) hb)
      have n4_ := Aside0.mk (blk_below (bu BK207.out) hb)
      have n5_ := Aside0.mk (blk_below (bu BK217.out) hb)
      have n6_ := Aside0.mk (below_step (lu HB.out) hb)
      clear HO210
      clear HO213
      clear BK206
      clear BK207
      clear BK217
      clear HB
      have HO210 := n0_
      have HO213 := n1_
      have HO216 := n2_
      have BK206 := n3_
      have BK207 := n4_
      have BK217 := n5_
      have HB := n6_
      clear n0_ n1_ n2_ n3_ n4_ n5_ n6_
      (try clear hb)
      (try clear hb2)
      (try clear hk)
      (try clear hi)
      (try clear ho0)
      obtain ⟨Ao14, co14, eo14⟩ := Kd.R_slice HO216.out
      (first | subst eo14 | (injection eo14 with f1_ f2_ f3_; have f4_ := f1_.symm; have f5_ := f3_.symm; clear f1_ f2_ f3_; subst f4_; subst f5_))
      obtain ⟨Ao15, co15, eo15⟩ := Kd.S_slice HO213.out
      (first | subst eo15 | (injection eo15 with f1_ f2_ f3_; have f4_ := f1_.symm; have f5_ := f3_.symm; clear f1_ f2_ f3_; subst f4_; subst f5_))
      obtain ⟨Ao16, co16, eo16⟩ := Kd.S_slice HO210.out
      (first | subst eo16 | (injection eo16 with f1_ f2_ f3_; have f4_ := f1_.symm; have f5_ := f3_.symm; clear f1_ f2_ f3_; subst f4_; subst f5_))
      refine hK.out _ _ ⟨(blk_cell BK206.out 0).trans rfl, (blk_cell BK206.out 1).trans rfl, (blk_cell BK206.out 2).trans rfl, (blk_cell BK206.out 3).trans rfl⟩ (fun hHeld => ?_)
      clear hK K
      refine norm_ (a' := ?_) ?_ ?_
      rotate_left
      · show Act.put _ (some 13) _ = _
        simp only [Act.put, List.setIfInBounds_toArray, List.set_cons_zero, List.set_cons_succ, i64_w, i32_w]
        rfl
      refine pu 6 14 (bt 9 255) HT_.out ?_
      exact norm_ (by simp only [putAll, Act.put, List.setIfInBounds_toArray, List.set_cons_zero, List.set_cons_succ]) (hCont (.slice Ao16 t208.length co16, .slice Ao15 t211.length co15, .slice Ao14 t214.length co14, gb217) _ ⟨hHeld, (su HO210.out), (su (S_mono HO213.out (fun _ hk => hk.2))), (ru HO216.out), (bu BK206.out), (bu BK207.out), (bu BK217.out), GW217.out, GE217.out, NB206_217.out, NB217_206.out, NB207_217.out, NB217_207.out, (lu HB.out)⟩)
    skip
    refine box_step ?hg (N := 3) ?hd (cs := #[.slice none 0 0, .slice none 0 0, .slice none 0 0, .slice none 0 0]) (t := 67) ?hr ?_; (case hd => rfl); (case hg => rfl); (case hr => first | (go_simp; done) | (go_simp; rfl))
    intro gb217 hg w10 hbox hb
    have n0_ := Aside0.mk (blk_below (bu BK206.out) hb)
    have n1_ := Aside0.mk (blk_below (bu BK207.out) hb)
    have n2_ := Aside0.mk (below_step (lu HB.out) hb)
    have n3_ := Aside0.mk (hbox)
    have n4_ := Aside0.mk ((by rw [hg]; exact (below_size (lu HB.out)) : w.heap.size ≤ gb217))
    have n5_ := Aside0.mk ((by rw [hg]; exact (below_size (lu HB.out)) : w.heap.size ≤ gb217))
    have n6_ := Aside0.mk ((by rw [hg]; exact Nat.ne_of_lt (blk_lt (bu BK206.out)) : gb206 ≠ gb217))
    have n7_ := Aside0.mk ((by rw [hg]; exact Nat.ne_of_gt (blk_lt (bu BK206.out)) : gb217 ≠ gb206))
    have n8_ := Aside0.mk ((by rw [hg]; exact Nat.ne_of_lt (blk_lt (bu BK207.out)) : gb207 ≠ gb217))
    have n9_ := Aside0.mk ((by rw [hg]; exact Nat.ne_of_gt (blk_lt (bu BK207.out)) : gb217 ≠ gb207))
    clear BK206
    clear BK207
    clear HB
    have BK206 := n0_
    have BK207 := n1_
    have HB := n2_
    have BK217 := n3_
    have GW217 := n4_
    have GE217 := n5_
    have NB206_217 := n6_
    have NB217_206 := n7_
    have NB207_217 := n8_
    have NB217_207 := n9_
    clear n0_ n1_ n2_ n3_ n4_ n5_ n6_ n7_ n8_ n9_
    clear hb hbox hg
    refine hK.out _ _ ⟨(blk_cell BK206.out 0).trans rfl, (blk_cell BK206.out 1).trans rfl, (blk_cell BK206.out 2).trans rfl, (blk_cell BK206.out 3).trans rfl⟩ (fun hHeld => ?_)
    clear hK K
    refine norm_ (a' := ?_) ?_ ?_
    rotate_left
    · show Act.put _ (some 3) _ = _
      simp only [Act.put, List.setIfInBounds_toArray, List.set_cons_zero, List.set_cons_succ, i64_w, i32_w]
      rfl
    refine one_ (i := 1) (N := some 9) (bt 9 151) rfl rfl (one_of HT_.out (by kernel_rfl)) (by decide) (fun K hK => ?_)
    refine goes_ Try.func31 (by kernel_rfl) rfl #[.agg #[.int .i64 a0_0, .int .i64 a0_1, .slice A0_2 l0_2.length c0_2, .slice A0_3 l0_3.length c0_3]] (by rfl) rfl rfl (by (try simp only [List.map_toArray, List.map_cons, List.map_nil]); first | done | rfl) ?_
    with_reducible refine (graph_Next.calls k a0_0 a0_1 _ _ l0_2 _ _ l0_3 t208 _ ?side1 ?side2 ?side3 ?side4 A2.out).mono ?_
    (case side1 => exact cu (C_below HR0_2.out HB.out))
    (case side2 => exact HC0_2.out)
    (case side3 => exact cu (C_below HR0_3.out HB.out))
    (case side4 => exact HC0_3.out)
    rintro e w11 ⟨v209, rfl, ho0, hb⟩
    refine ⟨_, rfl, ?_⟩
    have n0_ := Aside0.mk (Kd.S_lower ho0 (below_size (lu HB.out)))
    have n1_ := Aside0.mk (blk_below (bu BK206.out) hb)
    have n2_ := Aside0.mk (blk_below (bu BK207.out) hb)
    have n3_ := Aside0.mk (blk_below (bu BK217.out) hb)
    have n4_ := Aside0.mk (below_step (lu HB.out) hb)
    clear BK206
    clear BK207
    clear BK217
    clear HB
    have HO210 := n0_
    have BK206 := n1_
    have BK207 := n2_
    have BK217 := n3_
    have HB := n4_
    clear n0_ n1_ n2_ n3_ n4_
    (try clear hb)
    (try clear hb2)
    (try clear hk)
    (try clear hi)
    (try clear ho0)
    refine hK.out _ _ ⟨(blk_cell BK206.out 0).trans rfl, (blk_cell BK206.out 1).trans rfl, (blk_cell BK206.out 2).trans rfl, (blk_cell BK206.out 3).trans rfl⟩ (fun hHeld => ?_)
    clear hK K
    refine norm_ (a' := ?_) ?_ ?_
    rotate_left
    · show Act.put _ (some 9) _ = _
      simp only [Act.put, List.setIfInBounds_toArray, List.set_cons_zero, List.set_cons_succ, i64_w, i32_w]
      rfl
    refine one_ (i := 3) (N := some 11) (bt 9 159) rfl rfl (one_of HT_.out (by kernel_rfl)) (by decide) (fun K hK => ?_)
    refine goes_ Try.func17 (by kernel_rfl) rfl #[.agg #[.int .i64 a0_0, .int .i64 a0_1, .slice A0_2 l0_2.length c0_2, .slice A0_3 l0_3.length c0_3]] (by rfl) rfl rfl (by (try simp only [List.map_toArray, List.map_cons, List.map_nil]); first | done | rfl) ?_
    with_reducible refine (dom_Dominates.calls k a0_0 a0_1 _ _ l0_2 _ _ l0_3 t211 _ ?side1 ?side2 ?side3 ?side4 A3.out).mono ?_
    (case side1 => exact cu (C_below HR0_2.out HB.out))
    (case side2 => exact HC0_2.out)
    (case side3 => exact cu (C_below HR0_3.out HB.out))
    (case side4 => exact HC0_3.out)
    rintro e w12 ⟨v212, rfl, ho0, hb⟩
    refine ⟨_, rfl, ?_⟩
    have n0_ := Aside0.mk (Kd.S_below (su HO210.out) hb)
    have n1_ := Aside0.mk (Kd.S_lower ho0 (below_size (lu HB.out)))
    have n2_ := Aside0.mk (blk_below (bu BK206.out) hb)
    have n3_ := Aside0.mk (blk_below (bu BK207.out) hb)
    have n4_ := Aside0.mk (blk_below (bu BK217.out) hb)
    have n5_ := Aside0.mk (below_step (lu HB.out) hb)
    clear HO210
    clear BK206
    clear BK207
    clear BK217
    clear HB
    have HO210 := n0_
    have HO213 := n1_
    have BK206 := n2_
    have BK207 := n3_
    have BK217 := n4_
    have HB := n5_
    clear n0_ n1_ n2_ n3_ n4_ n5_
    (try clear hb)
    (try clear hb2)
    (try clear hk)
    (try clear hi)
    (try clear ho0)
    refine hK.out _ _ ⟨(blk_cell BK206.out 0).trans rfl, (blk_cell BK206.out 1).trans rfl, (blk_cell BK206.out 2).trans rfl, (blk_cell BK206.out 3).trans rfl⟩ (fun hHeld => ?_)
    clear hK K
    refine norm_ (a' := ?_) ?_ ?_
    rotate_left
    · show Act.put _ (some 11) _ = _
      simp only [Act.put, List.setIfInBounds_toArray, List.set_cons_zero, List.set_cons_succ, i64_w, i32_w]
      rfl
    refine one_ (i := 5) (N := some 13) (bt 9 191) rfl rfl (one_of HT_.out (by kernel_rfl)) (by decide) (fun K hK => ?_)
    refine goes_ Try.func32 (by kernel_rfl) rfl #[.agg #[.int .i64 a0_0, .int .i64 a0_1, .slice A0_2 l0_2.length c0_2, .slice A0_3 l0_3.length c0_3]] (by rfl) rfl rfl (by (try simp only [List.map_toArray, List.map_cons, List.map_nil]); first | done | rfl) ?_
    with_reducible refine (graph_Reached.calls k a0_0 a0_1 _ _ l0_2 _ _ l0_3 t214 _ ?side1 ?side2 ?side3 ?side4 A4.out).mono ?_
    (case side1 => exact cu (C_below HR0_2.out HB.out))
    (case side2 => exact HC0_2.out)
    (case side3 => exact cu (C_below HR0_3.out HB.out))
    (case side4 => exact HC0_3.out)
    rintro e w13 ⟨v215, rfl, ho0, hb⟩
    refine ⟨_, rfl, ?_⟩
    have n0_ := Aside0.mk (Kd.S_below (su HO210.out) hb)
    have n1_ := Aside0.mk (Kd.S_elder' (su HO213.out) (R_base ho0) hb)
    have n2_ := Aside0.mk (Kd.R_lower ho0 (below_size (lu HB.out)))
    have n3_ := Aside0.mk (blk_below (bu BK206.out) hb)
    have n4_ := Aside0.mk (blk_below (bu BK207.out) hb)
    have n5_ := Aside0.mk (blk_below (bu BK217.out) hb)
    have n6_ := Aside0.mk (below_step (lu HB.out) hb)
    clear HO210
    clear HO213
    clear BK206
    clear BK207
    clear BK217
    clear HB
    have HO210 := n0_
    have HO213 := n1_
    have HO216 := n2_
    have BK206 := n3_
    have BK207 := n4_
    have BK217 := n5_
    have HB := n6_
    clear n0_ n1_ n2_ n3_ n4_ n5_ n6_
    (try clear hb)
    (try clear hb2)
    (try clear hk)
    (try clear hi)
    (try clear ho0)
    obtain ⟨Ao14, co14, eo14⟩ := Kd.R_slice HO216.out
    (first | subst eo14 | (injection eo14 with f1_ f2_ f3_; have f4_ := f1_.symm; have f5_ := f3_.symm; clear f1_ f2_ f3_; subst f4_; subst f5_))
    obtain ⟨Ao15, co15, eo15⟩ := Kd.S_slice HO213.out
    (first | subst eo15 | (injection eo15 with f1_ f2_ f3_; have f4_ := f1_.symm; have f5_ := f3_.symm; clear f1_ f2_ f3_; subst f4_; subst f5_))
    obtain ⟨Ao16, co16, eo16⟩ := Kd.S_slice HO210.out
    (first | subst eo16 | (injection eo16 with f1_ f2_ f3_; have f4_ := f1_.symm; have f5_ := f3_.symm; clear f1_ f2_ f3_; subst f4_; subst f5_))
    refine hK.out _ _ ⟨(blk_cell BK206.out 0).trans rfl, (blk_cell BK206.out 1).trans rfl, (blk_cell BK206.out 2).trans rfl, (blk_cell BK206.out 3).trans rfl⟩ (fun hHeld => ?_)
    clear hK K
    refine norm_ (a' := ?_) ?_ ?_
    rotate_left
    · show Act.put _ (some 13) _ = _
      simp only [Act.put, List.setIfInBounds_toArray, List.set_cons_zero, List.set_cons_succ, i64_w, i32_w]
      rfl
    refine pu 6 14 (bt 9 255) HT_.out ?_
    exact norm_ (by simp only [putAll, Act.put, List.setIfInBounds_toArray, List.set_cons_zero, List.set_cons_succ]) (hCont (.slice Ao16 t208.length co16, .slice Ao15 t211.length co15, .slice Ao14 t214.length co14, gb217) _ ⟨hHeld, (su HO210.out), (su (S_mono HO213.out (fun _ hk => hk.2))), (ru HO216.out), (bu BK206.out), (bu BK207.out), (bu BK217.out), GW217.out, GE217.out, NB206_217.out, NB217_206.out, NB207_217.out, NB217_207.out, (lu HB.out)⟩)
  rintro ⟨v209, v212, v215, gb217⟩ w17 ⟨hS_, h0_, h1_, h2_, h3_, h4_, h5_, h6_, h7_, h8_, h9_, h10_, h11_, h12_⟩
  have n0_ : Aside0 (Kd.S (Kd.slice 3 (Kd.int .i64)) 22 w17 w.heap.size (fun _ => True) v209 t208) := ⟨h0_⟩
  have n1_ : Aside0 (Kd.S (Kd.slice 4 Kd.bool) 34 w17 w.heap.size (fun k_ => some k_ ≠ (v215 : Value).ownBlock) v212 t211) := ⟨h1_⟩
  have n2_ : Aside0 (Kd.R Kd.bool 4 w17 w.heap.size (fun _ => True) v215 t214) := ⟨h2_⟩
  have n3_ : Aside0 (w17.heap[gb206]? = some (.cells #[.int .i64 a0_0, .int .i64 a0_1, .slice A0_2 l0_2.length c0_2, .slice A0_3 l0_3.length c0_3] 25 (0, 0))) := ⟨h3_⟩
  have n4_ : Aside0 (w17.heap[gb207]? = some (.cells #[.slice none 0 0, .slice none 0 0, .slice none 0 0, .slice none 0 0] 67 (0, 0))) := ⟨h4_⟩
  have n5_ : Aside0 (w17.heap[gb217]? = some (.cells #[.slice none 0 0, .slice none 0 0, .slice none 0 0, .slice none 0 0] 67 (0, 0))) := ⟨h5_⟩
  have n6_ : Aside0 (w.heap.size ≤ gb217) := ⟨h6_⟩
  have n7_ : Aside0 (w.heap.size ≤ gb217) := ⟨h7_⟩
  have n8_ : Aside0 (gb206 ≠ gb217) := ⟨h8_⟩
  have n9_ : Aside0 (gb217 ≠ gb206) := ⟨h9_⟩
  have n10_ : Aside0 (gb207 ≠ gb217) := ⟨h10_⟩
  have n11_ : Aside0 (gb217 ≠ gb207) := ⟨h11_⟩
  have n12_ : Aside0 (Below w.heap.size w w17) := ⟨h12_⟩
  clear BK206
  clear BK207
  clear HB
  clear h0_ h1_ h2_ h3_ h4_ h5_ h6_ h7_ h8_ h9_ h10_ h11_ h12_
  have HO210 := n0_
  have HO213 := n1_
  have HO216 := n2_
  have BK206 := n3_
  have BK207 := n4_
  have BK217 := n5_
  have GW217 := n6_
  have GE217 := n7_
  have NB206_217 := n8_
  have NB217_206 := n9_
  have NB207_217 := n10_
  have NB217_207 := n11_
  have HB := n12_
  clear n0_ n1_ n2_ n3_ n4_ n5_ n6_ n7_ n8_ n9_ n10_ n11_ n12_
  have hHeld : w17.cell? ⟨gb206, 0, none⟩ = some (.int .i64 a0_0) ∧ w17.cell? ⟨gb206, 1, none⟩ = some (.int .i64 a0_1) ∧ w17.cell? ⟨gb206, 2, none⟩ = some (.slice A0_2 l0_2.length c0_2) ∧ w17.cell? ⟨gb206, 3, none⟩ = some (.slice A0_3 l0_3.length c0_3) := hS_
  obtain ⟨Ao18, co18, eo18⟩ := Kd.R_slice HO216.out
  (first | subst eo18 | (injection eo18 with f1_ f2_ f3_; have f4_ := f1_.symm; have f5_ := f3_.symm; clear f1_ f2_ f3_; subst f4_; subst f5_))
  obtain ⟨Ao19, co19, eo19⟩ := Kd.S_slice HO213.out
  (first | subst eo19 | (injection eo19 with f1_ f2_ f3_; have f4_ := f1_.symm; have f5_ := f3_.symm; clear f1_ f2_ f3_; subst f4_; subst f5_))
  obtain ⟨Ao20, co20, eo20⟩ := Kd.S_slice HO210.out
  (first | subst eo20 | (injection eo20 with f1_ f2_ f3_; have f4_ := f1_.symm; have f5_ := f3_.symm; clear f1_ f2_ f3_; subst f4_; subst f5_))
  refine norm_ (a' := ?_) ?_ ?_
  rotate_left
  · simp only [putAll, Act.put, List.setIfInBounds_toArray, List.set_cons_zero, List.set_cons_succ]
    rfl
  refine one_ (i := 8) (N := none) (bt 9 511) rfl rfl (one_of HT_.out (by kernel_rfl)) (by decide) (fun K hK => ?_)
  have hs21 : w17.cell? ⟨gb217, 0, none⟩ = some (.slice none 0 0) := (blk_cell BK217.out 0).trans rfl
  have hfs21 := blk_frozen BK217.out 0
  have hns21_0 := NB206_217.out
  have hns21_1 := NB207_217.out
  have hms21_0 := NB217_206.out
  have hms21_1 := NB217_207.out
  have hs22 : w17.cell? ⟨gb217, 1, none⟩ = some (.slice none 0 0) := (blk_cell BK217.out 1).trans rfl
  have hfs22 := blk_frozen BK217.out 1
  have hns22_0 := NB206_217.out
  have hns22_1 := NB207_217.out
  have hms22_0 := NB217_206.out
  have hms22_1 := NB217_207.out
  have hs23 : w17.cell? ⟨gb217, 2, none⟩ = some (.slice none 0 0) := (blk_cell BK217.out 2).trans rfl
  have hfs23 := blk_frozen BK217.out 2
  have hns23_0 := NB206_217.out
  have hns23_1 := NB207_217.out
  have hms23_0 := NB217_206.out
  have hms23_1 := NB217_207.out
  have hs24 : w17.cell? ⟨gb217, 3, none⟩ = some (.slice none 0 0) := (blk_cell BK217.out 3).trans rfl
  have hfs24 := blk_frozen BK217.out 3
  have hns24_0 := NB206_217.out
  have hns24_1 := NB207_217.out
  have hms24_0 := NB217_206.out
  have hms24_1 := NB217_207.out
  refine skip_ (w1 := ?_) (by rfl) rfl ?_ ?_
  rotate_left
  · go_simp
    rfl
  refine hK.out _ _ ⟨((cell_far (p := ⟨gb217, _, none⟩) NB206_217.out _).trans (((cell_far (p := ⟨gb217, _, none⟩) NB206_217.out _).trans (((cell_far (p := ⟨gb217, _, none⟩) NB206_217.out _).trans (((cell_far (p := ⟨gb217, _, none⟩) NB206_217.out _).trans (hHeld.1)))))))), ((cell_far (p := ⟨gb217, _, none⟩) NB206_217.out _).trans (((cell_far (p := ⟨gb217, _, none⟩) NB206_217.out _).trans (((cell_far (p := ⟨gb217, _, none⟩) NB206_217.out _).trans (((cell_far (p := ⟨gb217, _, none⟩) NB206_217.out _).trans (hHeld.2.1)))))))), ((cell_far (p := ⟨gb217, _, none⟩) NB206_217.out _).trans (((cell_far (p := ⟨gb217, _, none⟩) NB206_217.out _).trans (((cell_far (p := ⟨gb217, _, none⟩) NB206_217.out _).trans (((cell_far (p := ⟨gb217, _, none⟩) NB206_217.out _).trans (hHeld.2.2.1)))))))), ((cell_far (p := ⟨gb217, _, none⟩) NB206_217.out _).trans (((cell_far (p := ⟨gb217, _, none⟩) NB206_217.out _).trans (((cell_far (p := ⟨gb217, _, none⟩) NB206_217.out _).trans (((cell_far (p := ⟨gb217, _, none⟩) NB206_217.out _).trans (hHeld.2.2.2))))))))⟩ (fun hHeld => ?_)
  clear hK K
  refine done_ (done_of HT_.out (by kernel_rfl)) ?_
  have hnb25 := NB217_206.out
  have hnc25 := NB206_217.out
  have hnb26 := NB217_207.out
  have hnc26 := NB207_217.out
  have hcz27_0 : w17.cell? ⟨gb217, 0, none⟩ = some (.slice none 0 0) := (blk_cell BK217.out 0).trans rfl
  have hcz27_1 : w17.cell? ⟨gb217, 1, none⟩ = some (.slice none 0 0) := (blk_cell BK217.out 1).trans rfl
  have hcz27_2 : w17.cell? ⟨gb217, 2, none⟩ = some (.slice none 0 0) := (blk_cell BK217.out 2).trans rfl
  have hcz27_3 : w17.cell? ⟨gb217, 3, none⟩ = some (.slice none 0 0) := (blk_cell BK217.out 3).trans rfl
  have hfz27_0 := blk_frozen BK217.out 0
  have hfz27_1 := blk_frozen BK217.out 1
  have hfz27_2 := blk_frozen BK217.out 2
  have hfz27_3 := blk_frozen BK217.out 3
  try go_wp2_with (first | ((with_reducible refine gate_dst (N := 18) rfl ?_); refine Kd.S_make (Kd.slice 3 (Kd.int .i64)) _ 22 rfl (N := 18) rfl 28 _ _ rfl (t208.length : Int) rfl rfl Try.underlying28 (.slice none 0 0) 24 info22 rfl (by decide) (by omega) [] (ok := fun _ => True) (okp := fun _ => True) ⟨_, rfl, Kd.R_nil _ _ _ _ _⟩ (fun _ hk => hk) trivial (of_decide_eq_true (by with_reducible assumption)) (Nat.le_trans (Nat.mul_le_mul_right _ (of_decide_eq_true (by with_reducible assumption) : (t208.length : Int).toNat ≤ 11728124029610)) (by omega)) (Below.refl _ _) (Nat.le_refl _) ?_; intro v219 w28 ho29 hb hg_ hnew_; clear hg_ hnew_; rw [← Ny218.out] at ho29; have HE_ : Aside0 (∃ b1 : Nat, Kd.S (Kd.slice 3 (Kd.int .i64)) 22 w28 w.heap.size (fun k_ => True ∧ k_ < b1) _ t208 ∧ Kd.S (Kd.slice 4 Kd.bool) 34 w28 w.heap.size (fun k_ => True ∧ k_ < b1) _ t211 ∧ Kd.R Kd.bool 4 w28 w.heap.size (fun k_ => True ∧ k_ < b1) _ t214 ∧ Kd.S (Kd.slice 3 (Kd.int .i64)) 22 w28 b1 (fun _ => True) v219 y218 ∧ gb217 < b1 ∧ gb207 < b1 ∧ w.heap.size ≤ b1 ∧ b1 ≤ w28.heap.size) := ⟨⟨_, S_mono (Kd.S_old (by (with_reducible repeat (first | apply S_alloc | apply S_drewN | apply S_drew)); exact (S_mono (Kd.S_far (p := ⟨gb217, 3, none⟩) (Kd.S_far (p := ⟨gb217, 2, none⟩) (Kd.S_far (p := ⟨gb217, 1, none⟩) (Kd.S_far (p := ⟨gb217, 0, none⟩) (Kd.S_types HO210.out BK217.out (by decide)) (fun _ hk => hk.2) (.slice Ao20 t208.length co20)) (fun _ hk => hk.2) (.slice none 0 0)) (fun _ hk => hk.2) (.slice Ao19 t211.length co19)) (fun _ hk => hk.2) (.slice Ao18 t214.length co18)) (fun _ h_ => h_.1))) hb) (fun _ hk => ⟨trivial, hk.2⟩), S_mono (Kd.S_old (by (with_reducible repeat (first | apply S_alloc | apply S_drewN | apply S_drew)); exact (S_mono (Kd.S_far (p := ⟨gb217, 3, none⟩) (Kd.S_far (p := ⟨gb217, 2, none⟩) (Kd.S_far (p := ⟨gb217, 1, none⟩) (Kd.S_far (p := ⟨gb217, 0, none⟩) (Kd.S_types HO213.out BK217.out (by decide)) (fun _ hk => hk.2) (.slice Ao20 t208.length co20)) (fun _ hk => hk.2) (.slice none 0 0)) (fun _ hk => hk.2) (.slice Ao19 t211.length co19)) (fun _ hk => hk.2) (.slice Ao18 t214.length co18)) (fun _ h_ => h_.1))) hb) (fun _ hk => ⟨trivial, hk.2⟩), R_mono (look_Rold (by (with_reducible repeat (first | apply R_alloc | apply R_drewN | apply R_drew)); exact (R_mono (Kd.R_far (p := ⟨gb217, 3, none⟩) (Kd.R_far (p := ⟨gb217, 2, none⟩) (Kd.R_far (p := ⟨gb217, 1, none⟩) (Kd.R_far (p := ⟨gb217, 0, none⟩) (Kd.R_types HO216.out BK217.out (by decide)) (fun _ hk => hk.2) (.slice Ao20 t208.length co20)) (fun _ hk => hk.2) (.slice none 0 0)) (fun _ hk => hk.2) (.slice Ao19 t211.length co19)) (fun _ hk => hk.2) (.slice Ao18 t214.length co18)) (fun _ h_ => h_.1))) hb) (fun _ hk => ⟨trivial, hk.2⟩), ho29, blk_lt (g := gb217) (o := .cells #[.slice Ao20 t208.length co20, .slice none 0 0, .slice Ao19 t211.length co19, .slice Ao18 t214.length co18] 67 (0, 0)) (by (with_reducible repeat (first | refine blk_drewN ?_ _ | refine blk_drew ?_ | refine blk_alloc ?_ _)); refine blk_put (cs := #[.slice Ao20 t208.length co20, .slice none 0 0, .slice Ao19 t211.length co19, .slice none 0 0]) ?_ 3 _ rfl; (with_reducible repeat (first | refine blk_drewN ?_ _ | refine blk_drew ?_ | refine blk_alloc ?_ _)); refine blk_put (cs := #[.slice Ao20 t208.length co20, .slice none 0 0, .slice none 0 0, .slice none 0 0]) ?_ 2 _ rfl; (with_reducible repeat (first | refine blk_drewN ?_ _ | refine blk_drew ?_ | refine blk_alloc ?_ _)); refine blk_put (cs := #[.slice Ao20 t208.length co20, .slice none 0 0, .slice none 0 0, .slice none 0 0]) ?_ 1 _ rfl; (with_reducible repeat (first | refine blk_drewN ?_ _ | refine blk_drew ?_ | refine blk_alloc ?_ _)); refine blk_put (cs := #[.slice none 0 0, .slice none 0 0, .slice none 0 0, .slice none 0 0]) ?_ 0 _ rfl; (with_reducible repeat (first | refine blk_drewN ?_ _ | refine blk_drew ?_ | refine blk_alloc ?_ _)); exact BK217.out), blk_lt (g := gb207) (o := .cells #[.slice none 0 0, .slice none 0 0, .slice none 0 0, .slice none 0 0] 67 (0, 0)) (by (with_reducible repeat (first | refine blk_drewN ?_ _ | refine blk_drew ?_ | refine blk_alloc ?_ _)); refine blk_far ?_ NB207_217.out _; (with_reducible repeat (first | refine blk_drewN ?_ _ | refine blk_drew ?_ | refine blk_alloc ?_ _)); refine blk_far ?_ NB207_217.out _; (with_reducible repeat (first | refine blk_drewN ?_ _ | refine blk_drew ?_ | refine blk_alloc ?_ _)); refine blk_far ?_ NB207_217.out _; (with_reducible repeat (first | refine blk_drewN ?_ _ | refine blk_drew ?_ | refine blk_alloc ?_ _)); refine blk_far ?_ NB207_217.out _; (with_reducible repeat (first | refine blk_drewN ?_ _ | refine blk_drew ?_ | refine blk_alloc ?_ _)); exact BK207.out), (below_size (by repeat with_reducible first | exact HB.out | apply below_alloc | apply pw_below_drewN | apply below_drew1 | refine below_set ?_ GE206.out | refine below_set ?_ GE207.out | refine below_set ?_ GE217.out)), hb.size⟩⟩; have n0_ := Aside0.mk (Kd.S_elder' (by (with_reducible repeat (first | apply S_alloc | apply S_drewN | apply S_drew)); exact (S_mono (Kd.S_far (p := ⟨gb217, 3, none⟩) (Kd.S_far (p := ⟨gb217, 2, none⟩) (Kd.S_far (p := ⟨gb217, 1, none⟩) (Kd.S_far (p := ⟨gb217, 0, none⟩) (Kd.S_types HO210.out BK217.out (by decide)) (fun _ hk => hk.2) (.slice Ao20 t208.length co20)) (fun _ hk => hk.2) (.slice none 0 0)) (fun _ hk => hk.2) (.slice Ao19 t211.length co19)) (fun _ hk => hk.2) (.slice Ao18 t214.length co18)) (fun _ h_ => h_.1))) (Kd.S_base ho29) hb); have n1_ := Aside0.mk (Kd.S_below (by (with_reducible repeat (first | apply S_alloc | apply S_drewN | apply S_drew)); exact (S_mono (Kd.S_far (p := ⟨gb217, 3, none⟩) (Kd.S_far (p := ⟨gb217, 2, none⟩) (Kd.S_far (p := ⟨gb217, 1, none⟩) (Kd.S_far (p := ⟨gb217, 0, none⟩) (Kd.S_types HO213.out BK217.out (by decide)) (fun _ hk => hk.2) (.slice Ao20 t208.length co20)) (fun _ hk => hk.2) (.slice none 0 0)) (fun _ hk => hk.2) (.slice Ao19 t211.length co19)) (fun _ hk => hk.2) (.slice Ao18 t214.length co18)) (fun _ h_ => h_.1))) hb); have n2_ := Aside0.mk (Kd.R_below (by (with_reducible repeat (first | apply R_alloc | apply R_drewN | apply R_drew)); exact (R_mono (Kd.R_far (p := ⟨gb217, 3, none⟩) (Kd.R_far (p := ⟨gb217, 2, none⟩) (Kd.R_far (p := ⟨gb217, 1, none⟩) (Kd.R_far (p := ⟨gb217, 0, none⟩) (Kd.R_types HO216.out BK217.out (by decide)) (fun _ hk => hk.2) (.slice Ao20 t208.length co20)) (fun _ hk => hk.2) (.slice none 0 0)) (fun _ hk => hk.2) (.slice Ao19 t211.length co19)) (fun _ hk => hk.2) (.slice Ao18 t214.length co18)) (fun _ h_ => h_.1))) hb); have n3_ := Aside0.mk (Kd.S_lower (Kd.S_new' ho29 (Kd.S_lt (by (with_reducible repeat (first | apply S_alloc | apply S_drewN | apply S_drew)); exact (S_mono (Kd.S_far (p := ⟨gb217, 3, none⟩) (Kd.S_far (p := ⟨gb217, 2, none⟩) (Kd.S_far (p := ⟨gb217, 1, none⟩) (Kd.S_far (p := ⟨gb217, 0, none⟩) (Kd.S_types HO210.out BK217.out (by decide)) (fun _ hk => hk.2) (.slice Ao20 t208.length co20)) (fun _ hk => hk.2) (.slice none 0 0)) (fun _ hk => hk.2) (.slice Ao19 t211.length co19)) (fun _ hk => hk.2) (.slice Ao18 t214.length co18)) (fun _ h_ => h_.1))))) (below_size (by repeat with_reducible first | exact HB.out | apply below_alloc | apply pw_below_drewN | apply below_drew1 | refine below_set ?_ GE206.out | refine below_set ?_ GE207.out | refine below_set ?_ GE217.out))); have n4_ := Aside0.mk (blk_below (g := gb206) (o := .cells #[.int .i64 a0_0, .int .i64 a0_1, .slice A0_2 l0_2.length c0_2, .slice A0_3 l0_3.length c0_3] 25 (0, 0)) (by (with_reducible repeat (first | refine blk_drewN ?_ _ | refine blk_drew ?_ | refine blk_alloc ?_ _)); refine blk_far ?_ NB206_217.out _; (with_reducible repeat (first | refine blk_drewN ?_ _ | refine blk_drew ?_ | refine blk_alloc ?_ _)); refine blk_far ?_ NB206_217.out _; (with_reducible repeat (first | refine blk_drewN ?_ _ | refine blk_drew ?_ | refine blk_alloc ?_ _)); refine blk_far ?_ NB206_217.out _; (with_reducible repeat (first | refine blk_drewN ?_ _ | refine blk_drew ?_ | refine blk_alloc ?_ _)); refine blk_far ?_ NB206_217.out _; (with_reducible repeat (first | refine blk_drewN ?_ _ | refine blk_drew ?_ | refine blk_alloc ?_ _)); exact BK206.out) hb); have n5_ := Aside0.mk (blk_below (g := gb207) (o := .cells #[.slice none 0 0, .slice none 0 0, .slice none 0 0, .slice none 0 0] 67 (0, 0)) (by (with_reducible repeat (first | refine blk_drewN ?_ _ | refine blk_drew ?_ | refine blk_alloc ?_ _)); refine blk_far ?_ NB207_217.out _; (with_reducible repeat (first | refine blk_drewN ?_ _ | refine blk_drew ?_ | refine blk_alloc ?_ _)); refine blk_far ?_ NB207_217.out _; (with_reducible repeat (first | refine blk_drewN ?_ _ | refine blk_drew ?_ | refine blk_alloc ?_ _)); refine blk_far ?_ NB207_217.out _; (with_reducible repeat (first | refine blk_drewN ?_ _ | refine blk_drew ?_ | refine blk_alloc ?_ _)); refine blk_far ?_ NB207_217.out _; (with_reducible repeat (first | refine blk_drewN ?_ _ | refine blk_drew ?_ | refine blk_alloc ?_ _)); exact BK207.out) hb); have n6_ := Aside0.mk (blk_below (g := gb217) (o := .cells #[.slice Ao20 t208.length co20, .slice none 0 0, .slice Ao19 t211.length co19, .slice Ao18 t214.length co18] 67 (0, 0)) (by (with_reducible repeat (first | refine blk_drewN ?_ _ | refine blk_drew ?_ | refine blk_alloc ?_ _)); refine blk_put (cs := #[.slice Ao20 t208.length co20, .slice none 0 0, .slice Ao19 t211.length co19, .slice none 0 0]) ?_ 3 _ rfl; (with_reducible repeat (first | refine blk_drewN ?_ _ | refine blk_drew ?_ | refine blk_alloc ?_ _)); refine blk_put (cs := #[.slice Ao20 t208.length co20, .slice none 0 0, .slice none 0 0, .slice none 0 0]) ?_ 2 _ rfl; (with_reducible repeat (first | refine blk_drewN ?_ _ | refine blk_drew ?_ | refine blk_alloc ?_ _)); refine blk_put (cs := #[.slice Ao20 t208.length co20, .slice none 0 0, .slice none 0 0, .slice none 0 0]) ?_ 1 _ rfl; (with_reducible repeat (first | refine blk_drewN ?_ _ | refine blk_drew ?_ | refine blk_alloc ?_ _)); refine blk_put (cs := #[.slice none 0 0, .slice none 0 0, .slice none 0 0, .slice none 0 0]) ?_ 0 _ rfl; (with_reducible repeat (first | refine blk_drewN ?_ _ | refine blk_drew ?_ | refine blk_alloc ?_ _)); exact BK217.out) hb); have n7_ := Aside0.mk (below_step (by repeat with_reducible first | exact HB.out | apply below_alloc | apply pw_below_drewN | apply below_drew1 | refine below_set ?_ GE206.out | refine below_set ?_ GE207.out | refine below_set ?_ GE217.out) hb); clear HO210; clear HO213; clear HO216; clear BK206; clear BK207; clear BK217; clear HB; have HO210 := n0_; have HO213 := n1_; have HO216 := n2_; have HO220 := n3_; have BK206 := n4_; have BK207 := n5_; have BK217 := n6_; have HB := n7_; clear n0_ n1_ n2_ n3_ n4_ n5_ n6_ n7_; clear hb ho29; obtain ⟨Ao30, co30, eo30⟩ := Kd.S_slice HO220.out; subst eo30; have hcz31_0 : w28.cell? ⟨gb217, 0, none⟩ = some (.slice Ao20 t208.length co20) := (blk_cell BK217.out 0).trans rfl; have hcz31_1 : w28.cell? ⟨gb217, 1, none⟩ = some (.slice none 0 0) := (blk_cell BK217.out 1).trans rfl; have hcz31_2 : w28.cell? ⟨gb217, 2, none⟩ = some (.slice Ao19 t211.length co19) := (blk_cell BK217.out 2).trans rfl; have hcz31_3 : w28.cell? ⟨gb217, 3, none⟩ = some (.slice Ao18 t214.length co18) := (blk_cell BK217.out 3).trans rfl; have hfz31_0 := blk_frozen BK217.out 0; have hfz31_1 := blk_frozen BK217.out 1; have hfz31_2 := blk_frozen BK217.out 2; have hfz31_3 := blk_frozen BK217.out 3))
  obtain ⟨b1, q0_, q1_, q2_, q3_, q4_, q4b_, q5_, q6_⟩ := HE_.out
  clear HE_
  have E0 := Aside0.mk (Kd.S_V (base' := w.heap.size) (S_mono (Kd.S_bound (Kd.S_far (p := ⟨gb217, 1, none⟩) (Kd.S_types (Kd.S_types q0_ BK207.out (by decide)) BK217.out (by decide)) (fun _ hk => hk.2) (.slice Ao30 y218.length co30))) (fun k_ hk => (⟨hk.2.1, hk.1.1.1.2, hk.1.1.2⟩ : w.heap.size ≤ k_ ∧ k_ < b1 ∧ k_ ≠ gb207))))
  have E1 := Aside0.mk (Kd.S_V (base' := w.heap.size) (S_mono (Kd.S_bound (Kd.S_far (p := ⟨gb217, 1, none⟩) (Kd.S_types (Kd.S_types q1_ BK207.out (by decide)) BK217.out (by decide)) (fun _ hk => hk.2) (.slice Ao30 y218.length co30))) (fun k_ hk => (⟨hk.2.1, hk.1.1.1.2, hk.1.1.2⟩ : w.heap.size ≤ k_ ∧ k_ < b1 ∧ k_ ≠ gb207))))
  have E2 := Aside0.mk (Kd.R_V (base' := w.heap.size) (R_mono (Kd.R_bound (Kd.R_far (p := ⟨gb217, 1, none⟩) (Kd.R_types (Kd.R_types q2_ BK207.out (by decide)) BK217.out (by decide)) (fun _ hk => hk.2) (.slice Ao30 y218.length co30))) (fun k_ hk => (⟨hk.2.1, hk.1.1.1.2, hk.1.1.2⟩ : w.heap.size ≤ k_ ∧ k_ < b1 ∧ k_ ≠ gb207))))
  have E3 := Aside0.mk (S_mono (Kd.S_far (p := ⟨gb217, 1, none⟩) (Kd.S_types q3_ BK217.out (by decide)) (fun _ hk => hk.2) (.slice Ao30 y218.length co30)) (fun _ hk => hk.1))
  have E4 := Aside0.mk (blk_put (cs := #[.slice Ao20 t208.length co20, .slice none 0 0, .slice Ao19 t211.length co19, .slice Ao18 t214.length co18]) BK217.out 1 (.slice Ao30 y218.length co30) rfl)
  have E9 := Aside0.mk (blk_far (p := ⟨gb217, 1, none⟩) BK207.out NB207_217.out (.slice Ao30 y218.length co30))
  have E5 := Aside0.mk q4_
  have E5b := Aside0.mk q4b_
  have E6 := Aside0.mk q5_
  have E7 : Aside0 (b1 ≤ (World.setCell w28 ⟨gb217, 1, none⟩ (.slice Ao30 y218.length co30)).heap.size) := ⟨by simpa using q6_⟩
  have E8 := Aside0.mk (below_set (j := 1) (v := .slice Ao30 y218.length co30) HB.out GE217.out)
  clear q0_ q1_ q2_ q3_ q4_ q4b_ q5_ q6_ HO210 HO213 HO216 HB BK206 BK207 BK217 HO220
  generalize World.setCell w28 ⟨gb217, 1, none⟩ (.slice Ao30 y218.length co30) = W2 at E0 E1 E2 E3 E4 E7 E8 E9 ⊢
  have HF := Aside0.mk (Kd.V_F E0.out)
  go_loopg [23] k (fun kq v23 w' => ∃ (x3 : List (List Int)) (i : Int), v23 = .int .i64 i ∧ Aside0 (dom_ahead.l0 kq x3 t208 (t208.length : Int) i = some y0_) ∧ Aside0 (kq ≤ k) ∧ Aside0 (Kd.S (Kd.slice 3 (Kd.int .i64)) 22 w' b1 (fun _ => True) (.slice Ao30 y218.length co30) x3) ∧ Aside0 (Below b1 W2 w'))
  case atStart => exact ⟨y218, 0, rfl, H', ⟨Nat.le_refl _⟩, E3, ⟨Below.refl _ _⟩⟩
  clear H' E3
  obtain ⟨x3, i, rfl, HA, HK1, HO, HB⟩ := hrel
  rcases gk with _ | k1
  · exact absurd HA.out (by simp [dom_ahead.l0])
  have H := HA.out
  clear HA
  rw [dom_ahead.l0] at H
  by_cases c6 : i < (t208.length : Int)
  rotate_left
  · rw [if_neg c6] at H
    have c6b0 : decide (i < (t208.length : Int)) = false := decide_eq_false c6
    clear c6
    obtain rfl := Option.some.inj H
    clear H
    have BL := Aside0.mk ((HB.out.block gb217 E5.out).trans E4.out)
    have BR := Aside0.mk ((HB.out.block gb207 E5b.out).trans E9.out)
    have hl0_ := (blk_cell BL.out 0).trans (show _ = some (.slice Ao20 t208.length co20) from rfl)
    have hl1_ := (blk_cell BL.out 1).trans (show _ = some (.slice Ao30 y218.length co30) from rfl)
    have hl2_ := (blk_cell BL.out 2).trans (show _ = some (.slice Ao19 t211.length co19) from rfl)
    have hl3_ := (blk_cell BL.out 3).trans (show _ = some (.slice Ao18 t214.length co18) from rfl)
    have hr0_ := (blk_cell BR.out 0).trans (show _ = some (.slice none 0 0) from rfl)
    have hr1_ := (blk_cell BR.out 1).trans (show _ = some (.slice none 0 0) from rfl)
    have hr2_ := (blk_cell BR.out 2).trans (show _ = some (.slice none 0 0) from rfl)
    have hr3_ := (blk_cell BR.out 3).trans (show _ = some (.slice none 0 0) from rfl)
    have hf0_ := blk_frozen BR.out 0
    have hf1_ := blk_frozen BR.out 1
    have hf2_ := blk_frozen BR.out 2
    have hf3_ := blk_frozen BR.out 3
    have v0_ := Aside0.mk (Kd.V_mono (Kd.V_step E0.out (fun k_ hk_ _ => HB.out.block k_ hk_.2.1)) (fun k_ hk => (⟨hk.1, hk.2.2⟩ : w.heap.size ≤ k_ ∧ k_ ≠ gb207)))
    have v1_ := Aside0.mk (Kd.S_V (base' := w.heap.size) (S_mono (Kd.S_bound HO.out) (fun k_ hk => (⟨Nat.le_trans E6.out hk.2.1, by have := hk.2.1; have := E5b.out; omega⟩ : w.heap.size ≤ k_ ∧ k_ ≠ gb207))))
    have v2_ := Aside0.mk (Kd.V_mono (Kd.V_step E1.out (fun k_ hk_ _ => HB.out.block k_ hk_.2.1)) (fun k_ hk => (⟨hk.1, hk.2.2⟩ : w.heap.size ≤ k_ ∧ k_ ≠ gb207)))
    have v3_ := Aside0.mk (Kd.V_mono (Kd.V_step E2.out (fun k_ hk_ _ => HB.out.block k_ hk_.2.1)) (fun k_ hk => (⟨hk.1, hk.2.2⟩ : w.heap.size ≤ k_ ∧ k_ ≠ gb207)))
    have vb_ := Aside0.mk (below_step' E6.out E8.out HB.out)
    go_wp2
    refine bodyPost_ret (results_cell_row rfl _ _ gb207 67 #[.slice Ao20 t208.length co20, .slice Ao30 y218.length co30, .slice Ao19 t211.length co19, .slice Ao18 t214.length co18] (0, 0) _ rfl (blk_put (cs := #[.slice Ao20 t208.length co20, .slice Ao30 y218.length co30, .slice Ao19 t211.length co19, .slice none 0 0]) (blk_put (cs := #[.slice Ao20 t208.length co20, .slice Ao30 y218.length co30, .slice none 0 0, .slice none 0 0]) (blk_put (cs := #[.slice Ao20 t208.length co20, .slice none 0 0, .slice none 0 0, .slice none 0 0]) (blk_put (cs := #[.slice none 0 0, .slice none 0 0, .slice none 0 0, .slice none 0 0]) BR.out 0 _ rfl) 1 _ rfl) 2 _ rfl) 3 _ rfl) Try.underlying67 rfl (by kernel_rfl)) rfl ?_
    have far : ∀ {α : Type} {d : Kd α} {e : Nat} {W : World} {v : Value} {xs : List α} (j : Nat) (u : Value), Kd.V d e W w.heap.size (fun k_ => w.heap.size ≤ k_ ∧ k_ ≠ gb207) v xs → Kd.V d e (W.setCell ⟨gb207, j, none⟩ u) w.heap.size (fun k_ => w.heap.size ≤ k_ ∧ k_ ≠ gb207) v xs := fun j u h => Kd.V_far (p := ⟨gb207, j, none⟩) h (fun _ hk => hk.2) u
    exact ⟨_, _, _, _, rfl, Kd.V_mono (far 3 _ (far 2 _ (far 1 _ (far 0 _ v0_.out)))) (fun _ hk => hk.1), Kd.V_mono (far 3 _ (far 2 _ (far 1 _ (far 0 _ v1_.out)))) (fun _ hk => hk.1), Kd.V_mono (far 3 _ (far 2 _ (far 1 _ (far 0 _ v2_.out)))) (fun _ hk => hk.1), Kd.V_mono (far 3 _ (far 2 _ (far 1 _ (far 0 _ v3_.out)))) (fun _ hk => hk.1), below_set (below_set (below_set (below_set vb_.out GE207.out) GE207.out) GE207.out) GE207.out⟩
  rw [if_pos c6] at H
  by_cases c7 : 0 ≤ i
  rotate_left
  · rw [if_neg c7] at H
    exact absurd H (by simp)
  rw [if_pos c7, if_pos c6] at H
  have H' := Aside0.mk H
  clear H
  obtain ⟨ad1, A1, c1, e1, hx1, hl1, hF1⟩ := look_row (Kd.F_step HF.out (fun k_ hk_ _ => HB.out.block k_ hk_.2.1)) i c7 c6
  cases e1
  have HF1 := Aside0.mk hF1
  have HL1 := Aside0.mk hl1
  clear hF1 hl1
  have d6 : decide (i < (t208.length : Int)) = true := decide_eq_true c6
  have d7 : decide (0 ≤ i) = true := decide_eq_true c7
  have p6 := eq_true c6
  have p7 := eq_true c7
  clear c6 c7
  go_wp2
  clear p6 p7 d6 d7
  have HBo := HB
  go_loopg [30] k1 (fun kq v30 w' => ∃ (x3 : List (List Int)) (j : Int), v30 = .int .i64 j ∧ Aside0 (dom_ahead.l1 kq x3 i t208 (t208.length : Int) i (rd_L1 t208 i) ((rd_L1 t208 i).length : Int) j = some y0_) ∧ Aside0 (kq ≤ k1) ∧ Aside0 (Kd.S (Kd.slice 3 (Kd.int .i64)) 22 w' b1 (fun _ => True) (.slice Ao30 y218.length co30) x3) ∧ Aside0 (Below b1 W2 w'))
  case atStart => exact ⟨x3, 0, rfl, H', ⟨Nat.le_refl _⟩, HO, HB⟩
  clear H' HO HB hx1
  obtain ⟨x4, j, rfl, HA, HK2, HO, HB⟩ := hrel
  rcases gk with _ | k2
  · exact absurd HA.out (by simp [dom_ahead.l1])
  have H := HA.out
  clear HA
  rw [dom_ahead.l1] at H
  by_cases c9 : j < ((rd_L1 t208 i).length : Int)
  rotate_left
  · rw [if_neg c9] at H
    have c9b0 : decide (j < ((rd_L1 t208 i).length : Int)) = false := decide_eq_false c9
    clear c9
    have H' := Aside0.mk H
    clear H
    go_wp2
    go_roundg k1
    case measure => have := HK1.out; omega
    case rel => exact ⟨x4, wrap64 (i + 1), rfl, look_more H' HK2, ⟨by have := HK1.out; omega⟩, HO, HB⟩
  rw [if_pos c9] at H
  by_cases c10 : 0 ≤ j
  rotate_left
  · rw [if_neg c10] at H
    exact absurd H (by simp)
  rw [if_pos c10, if_pos c9] at H
  by_cases c12 : 0 ≤ rd (rd_L1 t208 i) j
  rotate_left
  · rw [if_neg c12] at H
    exact absurd H (by simp)
  rw [if_pos c12] at H
  by_cases c13 : rd (rd_L1 t208 i) j < (x4.length : Int)
  rotate_left
  · rw [if_neg c13] at H
    exact absurd H (by simp)
  rw [if_pos c13] at H
  by_cases c14 : (rd_L1 x4 (rd (rd_L1 t208 i) j)).length < 17592186044416
  rotate_left
  · rw [if_neg c14] at H
    exact absurd H (by simp)
  rw [if_pos c14] at H
  obtain ⟨l5, e5_⟩ : ∃ l5 : List Int, l5 = rd_L1 x4 (rd (rd_L1 t208 i) j) ++ [i] := ⟨_, rfl⟩
  rw [← e5_] at H
  have EL := Aside0.mk e5_
  clear e5_
  have H' := Aside0.mk H
  have LM := Aside0.mk c14
  clear H c14
  obtain ⟨ad2, e2, hx2⟩ := Kd.at_int (Kd.F_now (Kd.F_step HF1.out (fun k_ hk_ _ => (HB.out.block k_ hk_.2.1).trans (HBo.out.block k_ hk_.2.1).symm))) j c10 c9
  cases e2
  have hle := (S_reads' HO.out).1
  obtain ⟨g, cap, he, hge, _, _, _⟩ := Kd.S_form HO.out (by omega)
  obtain ⟨rfl, hle', rfl⟩ : Ao30 = some ⟨g, 0, none⟩ ∧ y218.length = x4.length ∧ co30 = cap := by injection he with h1 h2 h3; exact ⟨h1, h2, h3⟩
  clear he hle
  have HO2 : Aside0 (Kd.S (Kd.slice 3 (Kd.int .i64)) 22 wr b1 (fun _ => True) (.slice (some ⟨g, 0, none⟩) x4.length co30) x4) := ⟨by rw [← hle']; exact HO.out⟩
  obtain ⟨A3, c3, oki, hx3, hR3, hput⟩ := look_elem HO2.out (rd (rd_L1 t208 i) j) c12 c13
  have HP := Aside0.mk hput
  have HR3 := Aside0.mk hR3
  have HG := Aside0.mk hge
  have HLE := Aside0.mk hle'
  have d9 : decide (j < ((rd_L1 t208 i).length : Int)) = true := decide_eq_true c9
  have d10 : decide (0 ≤ j) = true := decide_eq_true c10
  have d12 : decide (0 ≤ rd (rd_L1 t208 i) j) = true := decide_eq_true c12
  have d13 : decide (rd (rd_L1 t208 i) j < (y218.length : Int)) = true := decide_eq_true (by rw [hle']; exact c13)
  have p9 := eq_true c9
  have p10 := eq_true c10
  have p12 := eq_true c12
  have p13 : (rd (rd_L1 t208 i) j < (y218.length : Int)) = True := eq_true (by rw [hle']; exact c13)
  clear hput hR3 hge hle' c9 c10 c12 c13 HO2
  have BL := Aside0.mk ((HB.out.block gb217 E5.out).trans E4.out)
  have hl1_ := (blk_cell BL.out 1).trans (show _ = some (.slice (some ⟨g, 0, none⟩) y218.length co30) from rfl)
  have hx3a := ((below_alloc (Below.refl wr.heap.size wr) (.cells #[.int .i64 i] 3)).cell (World.block_lt_of_cell? wr _ hx3)).trans hx3
  have hl1a := ((below_alloc (Below.refl wr.heap.size wr) (.cells #[.int .i64 i] 3)).cell (World.block_lt_of_cell? wr _ hl1_)).trans hl1_
  go_upto_region 9 with (fail)
  go_region_law (refine Kd.R_append_step (Kd.int .i64) (w0 := W2) (W := wr.drew) b1 ?aW (.tmp 41) (.tmp 43) 22 3 (.int .i64 0) 8 ?aV Try.underlying22 info3 rfl (by decide) (by omega) (.slice A3 (rd_L1 x4 (rd (rd_L1 t208 i) j)).length c3) (rd_L1 x4 (rd (rd_L1 t208 i) j)) i [.int .i64 i] (fun k_ => oki k_ ∨ True ∧ wr.heap.size ≤ k_) (fun _ => False) ?aX ?aY ?aP (fun _ hk => hk.elim) ?aF ?aO ?aB ?aS ?aL ?_; (case aW => first | rfl | simp [Region.wanted]); (case aV => rfl); (case aX => rfl); (case aY => first | rfl | (simp; done)); (case aP => exact rfl); (case aF => exact (fun k_ hk => .inr ⟨trivial, hk⟩)); (case aO => exact R_drew (R_mono HR3.out (fun _ hk => .inl hk))); (case aB => exact HB.out.drew); (case aS => exact look_size E7.out HB.out.drew); (case aL => have := LM.out; omega); intro v1 w1 hR hb hg hat; rw [← EL.out] at hR; obtain ⟨hx4, hf4, hS4⟩ := HP.out _ w1 v1 _ (Below.refl _ _).drew hg hR; obtain ⟨A5, c5, e5⟩ := Kd.R_slice hR; subst e5; have HS := Aside0.mk hS4; have HB2 := Aside0.mk hb; have hl1b := (blk_cell ((hb.block gb217 E5.out).trans E4.out) 1).trans (show _ = some (.slice (some ⟨g, 0, none⟩) y218.length co30) from rfl); clear hS4 hb hg hR hat)
  all_goals (go_wp2; go_roundg k2)
  all_goals first
    | (have := HK1.out; have := HK2.out; omega)
    | exact ⟨_, wrap64 (j + 1), rfl, H', ⟨by have := HK2.out; omega⟩, ⟨by rw [HLE.out]; exact HS.out⟩, ⟨HB2.out.setCell HG.out _⟩⟩
end Go.Proofs.Ytpionncanaamgaa.PLoopsStays
