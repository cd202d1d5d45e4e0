/- Put of a full table, the drawer of a value, and one drawer lent out of the table. Conditions: a table of 1 to 16 drawers. -/
import Derived.Test.YtaedbjjjdafabaaTb
namespace Go.Proofs.Ytaedbjjjdafabaa.Tb
open Go.RowKit Go.Proofs.YtaedbjjjdafabaaW.PrintWords Go.Proofs.YtaedbjjjdafabaaW.PrintLast Go.Proofs.YtaedbjjjdafabaaW.PrintMore Go.Proofs.YtaedbjjjdafabaaW.PrintWords.Kd Go.Maps Go.Proofs.Ytaedbjjjdafabaa.PInternFull
attribute [local go_sem] max2_int min2_int max_two min_two max_three min_three max_four min_four
set_option linter.unusedVariables false
set_option linter.unusedSimpArgs false
variable {w w1 : World} {b gt : Nat} {A : Option Addr} {n c bm m : Nat} {X : List (List (Int × Int))} {D : DataW Unit}
set_option maxHeartbeats 4000000 in
set_option maxRecDepth 100000 in
theorem put_full (h : Tab w b gt A n c bm m X D) (x y : Int) (hm : intern_may.f x y = some true) (hx : (Lit.int .i64 x).wf = true) (hy : (Lit.int .i64 y).wf = true) (hh : Maps.has D (KL x y) = false) (hs : 4096 ≤ Maps.size D) :
    Calls Try.prog 10 #[.pointer (some ⟨gt, 0, none⟩), .int .i64 x, .int .i64 y] w fun e w' => e = .returned (.tuple #[.int .i64 0, .iface 31 (.int .i64 8)]) ∧ Below w.heap.size w w' := by
  have HB := Aside0.mk (Below.refl w.heap.size w)
  have HM := Aside0.mk hm
  have HT := Aside0.mk (h.below (below_alloc HB.out (.cells #[.int .i64 x, .int .i64 y] 40)))
  have HX := Aside0.mk hx
  have HY := Aside0.mk hy
  have HH := Aside0.mk hh
  have HBX := Aside0.mk (blk_new w (.cells #[.int .i64 x, .int .i64 y] 40))
  have hs' : (4096 : Int) ≤ (Maps.size D : Int) := by omega
  have hs1 : decide ((4096 : Int) ≤ (Maps.size D : Int)) = true := decide_eq_true hs'
  have hs2 := eq_true hs'
  clear hs'
  clear hm h hx hy hh hs
  go_enter Try.func10, Try.ntmps10
  go_wp2_with (go_at_call 16; refine (intern_may.calls x y true _ HM.out).mono ?_; rintro e w3 ⟨rfl, hB⟩; have HB2 := Aside0.mk hB; clear hB)
  have HT3 := Aside0.mk (HT.out.below HB2.out)
  have HBX3 := blk_below HBX.out HB2.out
  obtain ⟨r', hr', _, hrun⟩ := HT3.out.look HX.out HY.out
  rw [HH.out] at hrun
  have HRUN := Aside0.mk hrun
  have hc1 := (blk_cell HT3.out.blk 1).trans (show _ = some (.map (some bm)) from rfl)
  have hx0 := (blk_cell HBX3 0).trans (show _ = some (.int .i64 x) from rfl)
  have hx1 := (blk_cell HBX3 1).trans (show _ = some (.int .i64 y) from rfl)
  clear hr' HBX3 hrun
  refine wp_region_quiet_lit (by kernel_rfl) (by kernel_rfl) ?_
  repeat (go_big_quiet_step (fail))
  refine quiet_lookup rfl _ _ _ _ rfl rfl rfl (fun w' hw' => by obtain ⟨n, rfl⟩ := hw'; exact HRUN.out n) ?_
  simp only [Act.put, List.setIfInBounds_toArray, List.set_cons_zero, List.set_cons_succ]
  repeat (go_big_quiet_step (fail))
  refine wpQuiet_nil ?_
  intro _ hw'
  obtain ⟨nq, hw''⟩ := hw'
  subst hw''
  go_wp2_with (at_len; refine wpList_len_own _ rfl _ 47 rfl 40 3 Try.underlying47 (plainElem Try.prog 3) bm m D rfl (HT3.out.drewN nq).map ?_)
  go_ret2
  exact ⟨rfl, pw_below_drewN (below_step (below_alloc HB.out _) HB2.out) _⟩
/-- A value's drawer, of n. -/
def drw (x y : Int) (n : Nat) : Int := wrap64 ((IntKind.u64.wrap (y % 4294967296 + IntKind.u64.wrap x)).tmod ↑n)
theorem drw_bd (x y : Int) {n : Nat} (h : 1 ≤ n) (h2 : n ≤ 16) : 0 ≤ drw x y n ∧ drw x y n < n := by
  have h0 : 0 ≤ IntKind.u64.wrap (y % 4294967296 + IntKind.u64.wrap x) := by unfold IntKind.wrap; simp [IntKind.signed, IntKind.bits]; omega
  have h1 := Int.tmod_nonneg (n : Int) h0
  have h3 := Int.tmod_lt_of_pos (IntKind.u64.wrap (y % 4294967296 + IntKind.u64.wrap x)) (show (0 : Int) < n by omega)
  unfold drw
  generalize (IntKind.u64.wrap (y % 4294967296 + IntKind.u64.wrap x)).tmod ↑n = u at *
  unfold wrap64
  omega
set_option maxHeartbeats 4000000 in
set_option maxRecDepth 100000 in
theorem drawer_any (h : Tab w b gt A n c bm m X D) (x y : Int) (hn1 : 1 ≤ n) (hn2 : n ≤ 16) :
    Calls Try.prog 17 #[.pointer (some ⟨gt, 0, none⟩), .agg #[.int .i64 x, .int .i64 y]] w fun e w' => e = .returned (.int .i64 (drw x y n)) ∧ Below w.heap.size w w' := by
  have HB := Aside0.mk (Below.refl w.heap.size w)
  have HT := Aside0.mk (h.below (below_alloc HB.out (.cells #[.int .i64 x, .int .i64 y] 40)))
  have hbx := blk_new w (.cells #[.int .i64 x, .int .i64 y] 40)
  have hc1 := (blk_cell HT.out.blk 0).trans (show _ = some (.slice A n c) from rfl)
  have hx0 := (blk_cell hbx 0).trans (show _ = some (.int .i64 x) from rfl)
  have hx1 := (blk_cell hbx 1).trans (show _ = some (.int .i64 y) from rfl)
  clear h hbx
  go_enter Try.func17, Try.ntmps17
  go_wp2
  go_quiet (fail)
  go_wp2
  go_ret
  exact ⟨rfl, pw_below_drewN (below_alloc HB.out _) _⟩
theorem sz1 : (Kd.slice 40 kV).sz = 1 := rfl
theorem blk_own {W : World} {d : Kd (Int × Int)} {ok : Nat → Prop} {v : Value} {l : List (Int × Int)} {g t : Nat} {cs : Array Value} (h : d.R 40 W b ok v l) (hg : W.heap[g]? = some (.cells cs t (0, 0))) (ht : 40 ≠ t) : some g ≠ v.ownBlock := R_ne h hg ht
/-- Drawer t of the table, lent: appended to and stored back. -/
theorem Tab.elem (h : Tab w b gt A n c bm m X D) (t : Int) (h0 : 0 ≤ t) (h1 : t < n) :
    ∃ (g : Nat) (Ae : Option Addr) (ce : Nat) (oki : Nat → Prop), A = some ⟨g, 0, none⟩ ∧ b ≤ g ∧ w.cell? ⟨g, t.toNat, none⟩ = some (.slice Ae (X.getD t.toNat []).length ce) ∧ Kd.R kV 40 w b oki (.slice Ae (X.getD t.toNat []).length ce) (X.getD t.toNat []) ∧
      ∀ (W w1 : World) (v1 : Value) (l : List (Int × Int)), Below w.heap.size w W → W.grownBy w1 (Value.slice Ae (X.getD t.toNat []).length ce).ownBlock → Kd.R kV 40 w1 b (fun k_ => oki k_ ∨ True ∧ w.heap.size ≤ k_) v1 l →
        w1.cell? ⟨g, t.toNat, none⟩ = some (.slice Ae (X.getD t.toNat []).length ce) ∧ w1.frozen? ⟨g, t.toNat, none⟩ = false ∧ w1.cell? ⟨gt, 0, none⟩ = some (.slice A n c) ∧ Tab (w1.setCell ⟨g, t.toNat, none⟩ v1) b gt A n c bm m (X.set t.toNat l) D := by
  have hl := (S_reads' h.rows).1
  obtain ⟨g, cap, he, hge, hlt, cells, hgc⟩ := S_form h.rows (by omega)
  obtain ⟨rfl, -, rfl⟩ : A = some ⟨g, 0, none⟩ ∧ n = X.length ∧ c = cap := by injection he with e1 e2 e3; exact ⟨e1, e2, e3⟩
  obtain ⟨oki, ce, hcl, hM, hcc, _, _, hH⟩ := Kd.S_elem h.rows [] t h0 h1
  obtain ⟨ve, rfl, ge⟩ := hM
  obtain ⟨Ae, c', hve⟩ := Kd.R_slice ge
  subst hve
  have hv := hcc 0 _ rfl
  simp only [sz1, Nat.mul_one, Nat.add_zero] at hv
  refine ⟨g, Ae, c', oki, rfl, hge, hv, ge, fun W w1 v1 l hb hg hR => ?_⟩
  have gW := blk_below h.blk hb
  have RW := R_below ge hb
  have cW := blk_below hgc hb
  have n1 : some gt ≠ (Value.slice Ae (X.getD t.toNat []).length c').ownBlock := R_ne RW gW (by decide)
  have n2 : some g ≠ (Value.slice Ae (X.getD t.toNat []).length c').ownBlock := R_ne RW cW (by decide)
  have n4 : gt ≠ g := by
    rintro rfl
    have := h.blk.symm.trans hgc
    injection this with e
    injection e with _ e
    exact absurd e (by decide)
  obtain ⟨es, cl, hbm, _⟩ := id h.map
  have n5 : bm ≠ g := by
    rintro rfl
    have := hbm.symm.trans hgc
    injection this with e
    cases e
  have n3 : some bm ≠ (Value.slice Ae (X.getD t.toNat []).length c').ownBlock := by
    intro e
    obtain ⟨inner, ho⟩ := R_own RW
    obtain ⟨cs, hcs⟩ := own_typed ho bm e.symm
    have := (blk_below hbm hb).symm.trans hcs
    injection this with e
    cases e
  have H1 := Kd.H_grown (Kd.H_below (Kd.H_widen hH) hb) hg (fun k_ e_ => .inl (ge.1 k_ e_))
  obtain ⟨hc, hfr⟩ := Kd.H_at H1 h0 h1
  have hx := hc 0 _ rfl
  have hf := hfr 0
  simp only [sz1, Nat.mul_one, Nat.add_zero] at hx hf
  obtain ⟨A2, c2, rfl⟩ := Kd.R_slice hR
  have HP := Kd.S_seg0 H1 h0 h1 (seg := [.slice A2 l.length c2]) (j := 0) (show 1 ≤ 1 from by decide) (x' := l) (Kd.M_row hR) (fun _ hk => hk)
  simp only [sz1, Nat.mul_one, Nat.add_zero] at HP
  have g1 := blk_grown gW hg n1
  refine ⟨hx, hf, (blk_cell g1 0).trans rfl, ⟨blk_far (p := ⟨g, _, none⟩) g1 n4 _, ?_, ?_, h.ge, h.gem⟩⟩
  · have := HP.1
    exact this
  · exact ((h.map.kept (grown_of_below hb none) (by simp)).kept hg n3).setCell n5 _
end Go.Proofs.Ytaedbjjjdafabaa.Tb
