/- What is amiss with a function, as the checker tells it. Conditions: rows of at most 100000. -/
import Derived.Test.YtckebppacealeaaDoorLj
namespace Go.Proofs.YtckebppacealeaaDoor.Lk
open Go.RowKit Go.Proofs.YtckebppacealeaaDoorW.PrintWords Go.Proofs.YtckebppacealeaaDoorW.PrintLast Go.Proofs.YtckebppacealeaaDoorW.PrintMore Go.Proofs.YtckebppacealeaaDoorW.PrintWords.Kd Go.Proofs.YtckebppacealeaaDoor.PCodeUnlike Go.Proofs.YtckebppacealeaaDoor.Lp
attribute [local go_sem] max2_int min2_int max_two min_two max_three min_three max_four min_four
set_option linter.unusedVariables false
set_option linter.unusedSimpArgs false
variable {w w1 : World}
section
variable {Ar : Option Addr} {cr : Nat} {Ab : Option Addr} {cb : Nat}
theorem small_any (f : Fn) (s : Bd f.f3) (hr : Kd.C (Kd.int .i64) w Ar f.f2.length f.f2) (hcr : f.f2.length ≤ cr) (hb : Kd.C k56 w Ab f.f3.length f.f3) (hcb : f.f3.length ≤ cb) :
    Calls Tryd.prog 61 #[.agg #[.int .i64 f.f0, .int .i64 f.f1, .slice Ar f.f2.length cr, .slice Ab f.f3.length cb]] w fun e w' => e = .returned (.bool (smallB f.f2 f.f3)) ∧ Below w.heap.size w w' := by
  obtain ⟨k, hk⟩ := (small_ev f.f3 s f.f0 f.f1 f.f2).rounds
  exact check_small.calls k f.f0 f.f1 Ar cr f.f2 Ab cb f.f3 _ w hr hcr hb hcb hk
theorem ends_any (f : Fn) (t : Tm) (At : Option Addr) (ct : Nat) (ht : t.f2.length ≤ 100000) (hr : Kd.C (Kd.int .i64) w Ar f.f2.length f.f2) (hcr : f.f2.length ≤ cr) (hb : Kd.C k56 w Ab f.f3.length f.f3) (hcb : f.f3.length ≤ cb) (hto : Kd.C (Kd.int .i64) w At t.f2.length t.f2) (hct : t.f2.length ≤ ct) :
    Calls Tryd.prog 63 #[.agg #[.int .i64 f.f0, .int .i64 f.f1, .slice Ar f.f2.length cr, .slice Ab f.f3.length cb], .agg #[.int .i64 t.f0, .int .i64 t.f1, .slice At t.f2.length ct]] w fun e w' => e = .returned (.bool (endsB f.f3.length t)) ∧ Below w.heap.size w w' := by
  obtain ⟨k, hk⟩ := (ends_ev f.f3 f.f0 f.f1 f.f2 t ht).rounds
  exact check_ends.calls k f.f0 f.f1 Ar cr f.f2 Ab cb f.f3 t.f0 t.f1 At ct t.f2 _ w hr hcr hb hcb hto hct hk
theorem ahead_any (f : Fn) (s : Bd f.f3) (hr : Kd.C (Kd.int .i64) w Ar f.f2.length f.f2) (hcr : f.f2.length ≤ cr) (hb : Kd.C k56 w Ab f.f3.length f.f3) (hcb : f.f3.length ≤ cb) :
    Calls Tryd.prog 64 #[.agg #[.int .i64 f.f0, .int .i64 f.f1, .slice Ar f.f2.length cr, .slice Ab f.f3.length cb]] w fun e w' => (∃ (A : Option Addr) (c : Nat) (R : List (List Int)), e = .returned (.slice A R.length c) ∧ Kd.C (Kd.slice 3 (Kd.int .i64)) w' A R.length R ∧ R.length = f.f3.length ∧ ∀ t, t < f.f3.length → R.getD t [] = ah f.f3 t f.f3.length) ∧ Below w.heap.size w w' := by
  obtain ⟨R, hR, hl, hv⟩ := ahead_ev f.f3 s f.f0 f.f1 f.f2
  obtain ⟨k, hk⟩ := hR.rounds
  refine (check_Ahead.calls k f.f0 f.f1 Ar cr f.f2 Ab cb f.f3 _ w hr hcr hb hcb hk).mono ?_
  rintro e w' ⟨v, rfl, hS, hb⟩
  obtain ⟨A, c, rfl⟩ := Kd.S_slice hS
  exact ⟨⟨A, c, R, rfl, (Kd.S_reads' hS).2.2, hl, hv⟩, hb⟩
end
section
variable {bl : Nat} {m : List Fn} {f : Fn} {Am : Option Addr} {cm : Nat} {Ar : Option Addr} {cr : Nat} {Ab : Option Addr} {cb : Nat}
theorem Lk.c1 (h : Lk w bl m f Am cm Ar cr Ab cb) : w.cell? ⟨bl, 1, none⟩ = some (.int .i64 f.f0) := (blk_cell h.blk 1).trans rfl
theorem Lk.c2 (h : Lk w bl m f Am cm Ar cr Ab cb) : w.cell? ⟨bl, 2, none⟩ = some (.int .i64 f.f1) := (blk_cell h.blk 2).trans rfl
theorem Lk.c3 (h : Lk w bl m f Am cm Ar cr Ab cb) : w.cell? ⟨bl, 3, none⟩ = some (.slice Ar f.f2.length cr) := (blk_cell h.blk 3).trans rfl
theorem Lk.c4 (h : Lk w bl m f Am cm Ar cr Ab cb) : w.cell? ⟨bl, 4, none⟩ = some (.slice Ab f.f3.length cb) := (blk_cell h.blk 4).trans rfl
end
theorem rows_at {A : Option Addr} {n : Nat} {xs : List (List Int)} (h : Kd.C (Kd.slice 3 (Kd.int .i64)) w A n xs) (k : Nat) (hk : k < n) : ∃ ad A0 c0, A = some ad ∧ w.cell? (ad.add k) = some (.slice A0 (xs.getD k []).length c0) ∧ (Kd.int .i64).C w A0 (xs.getD k []).length (xs.getD k []) := by
  obtain ⟨ad, c, e, _, hK, hc0⟩ := Kd.C_get h ([] : List Int) (k : Int) (by omega) (by omega)
  rw [Int.toNat_natCast] at hK hc0
  have hc : ∀ j u, c[j]? = some u → w.cell? (ad.add (k * 1 + j)) = some u := hc0
  obtain ⟨A0, c0, rfl, l0, g0⟩ := hK
  exact ⟨ad, A0, c0, e, by have hq := hc 0 _ rfl; rwa [Nat.mul_one, Nat.add_zero] at hq, g0⟩
theorem bool_two (b : Bool) : b = true ∨ b = false := by cases b <;> simp
def phiOk (B : List Bk) (i : Nat) : Bool := (B.getD i z56).f0.all fun p => decide (p.f1.length = (ah B i B.length).length)
def funcE (m : List Fn) (i : Int) : Option Int :=
  if i < 0 then some 1 else if (m.length : Int) ≤ i then some 1 else
  if smallB (rd_T50 m i).f2 (rd_T50 m i).f3 = true then (if typedB (rd_T50 m i) = true then
    (if (rd_T50 m i).f3.all (fun b => endsB (rd_T50 m i).f3.length b.f2) = true then
      (if (List.range (rd_T50 m i).f3.length).all (phiOk (rd_T50 m i).f3) = true then (rd_T50 m i).f3.findSome? (blockE m (rd_T50 m i)) else some 6)
    else some 6) else some 3) else some 5
theorem all_getD {α : Type} {l : List α} {p : α → Bool} {z : α} (h : ∀ j, j < l.length → p (l.getD j z) = true) : l.all p = true := by
  rw [List.all_eq_true]
  intro x hx
  obtain ⟨j, hj, rfl⟩ := mem_getD z hx
  exact h j hj
theorem not_all_getD {α : Type} {l : List α} {p : α → Bool} {z : α} {j : Nat} (hj : j < l.length) (h : p (l.getD j z) = false) : ¬ l.all p = true := fun ha => by
  have := List.all_eq_true.mp ha _ (getD_mem l j z hj)
  rw [h] at this
  exact absurd this (by simp)
set_option maxHeartbeats 16000000 in
set_option maxRecDepth 100000 in
theorem func_any (m : List Fn) (Am : Option Addr) (cm : Nat) (hm : Kd.C k50 w Am m.length m) (hcm : m.length ≤ cm) (i : Int) (hbd : ∀ j, j < m.length → Bd (m.getD j z50).f3) :
    Calls Tryd.prog 41 #[.agg #[.slice Am m.length cm], .int .i64 i] w fun e w' => e = .returned (errW (funcE m i)) ∧ Below w.heap.size w w' := by
  have HM := Aside0.mk hm
  have HCM := Aside0.mk hcm
  have HBD := Aside0.mk hbd
  clear hm hcm hbd
  unfold funcE
  by_cases c0 : i < 0
  · rw [if_pos c0]
    have d0 := decide_eq_true c0
    clear c0
    go_enter Tryd.func41, Tryd.ntmps41
    go_wp2_with ((with_reducible refine gate_dst (N := 2) rfl ?_); refine box_event ?hg (N := 2) ?hd (cs := #[.slice Am m.length cm]) (t := 24) ?hr ?_; (case hd => rfl); (case hg => rfl); (case hr => first | (go_simp; done) | (go_simp; rfl)); intro gb2 hg w2 hbox hb; have BX2 := Aside0.mk hbox; have H0 := Aside0.mk hb; have HG2 := Aside0.mk hg; have HB := Aside0.mk (Below.refl w2.heap.size w2); clear hbox hb hg; have hx2_0 : w2.cell? ⟨gb2, 0, none⟩ = some (.slice Am m.length cm) := (blk_cell BX2.out 0).trans rfl)
    go_ret
    exact ⟨rfl, H0.out⟩
  rw [if_neg c0]
  have d0 := decide_eq_false c0
  by_cases c1 : (m.length : Int) ≤ i
  · rw [if_pos c1]
    have d1 := decide_eq_true c1
    clear c0 c1
    go_enter Tryd.func41, Tryd.ntmps41
    go_wp2_with ((with_reducible refine gate_dst (N := 2) rfl ?_); refine box_event ?hg (N := 2) ?hd (cs := #[.slice Am m.length cm]) (t := 24) ?hr ?_; (case hd => rfl); (case hg => rfl); (case hr => first | (go_simp; done) | (go_simp; rfl)); intro gb2 hg w2 hbox hb; have BX2 := Aside0.mk hbox; have H0 := Aside0.mk hb; have HG2 := Aside0.mk hg; have HB := Aside0.mk (Below.refl w2.heap.size w2); clear hbox hb hg; have hx2_0 : w2.cell? ⟨gb2, 0, none⟩ = some (.slice Am m.length cm) := (blk_cell BX2.out 0).trans rfl)
    go_ret
    exact ⟨rfl, H0.out⟩
  rw [if_neg c1]
  have d1 := decide_eq_false c1
  have P0 := Aside0.mk (show 0 ≤ i by omega)
  have Q0 := Aside0.mk (show i < (m.length : Int) by omega)
  obtain ⟨f, hf⟩ : ∃ f, f = rd_T50 m i := ⟨_, rfl⟩
  rw [← hf]
  have HF := Aside0.mk hf
  have HS := Aside0.mk (show Bd f.f3 by rw [hf]; exact HBD.out i.toNat (by omega))
  clear c0 c1 hf HBD
  have key : ∀ r, (if smallB f.f2 f.f3 = true then (if typedB f = true then (if f.f3.all (fun b => endsB f.f3.length b.f2) = true then (if (List.range f.f3.length).all (phiOk f.f3) = true then f.f3.findSome? (blockE m f) else some 6) else some 6) else some 3) else some 5) = r →
      Calls Tryd.prog 41 #[.agg #[.slice Am m.length cm], .int .i64 i] w fun e w' => e = .returned (errW r) ∧ Below w.heap.size w w' := by
    intro r hr
    have HV := Aside0.mk hr
    clear hr
    go_enter Tryd.func41, Tryd.ntmps41
    go_wp2_with ((with_reducible refine gate_dst (N := 2) rfl ?_); refine box_event ?hg (N := 2) ?hd (cs := #[.slice Am m.length cm]) (t := 24) ?hr ?_; (case hd => rfl); (case hg => rfl); (case hr => first | (go_simp; done) | (go_simp; rfl)); intro gb2 hg w2 hbox hb; have BX2 := Aside0.mk hbox; have H0 := Aside0.mk hb; have HG2 := Aside0.mk hg; have HB := Aside0.mk (Below.refl w2.heap.size w2); clear hbox hb hg; have hx2_0 : w2.cell? ⟨gb2, 0, none⟩ = some (.slice Am m.length cm) := (blk_cell BX2.out 0).trans rfl)
    have hm2 := Kd.C_below HM.out H0.out
    obtain ⟨ad, Ar, cr, Ab, cb, e0, hx0, hx1, hx2, hx3, hq1, hq2, hq3, hq4⟩ := at_T50 hm2 i P0.out Q0.out
    cases e0
    rw [← HF.out] at hx0 hx1 hx2 hx3 hq1 hq2 hq3 hq4
    have HL2 := Aside0.mk (And.intro hm2 (And.intro hq1 (And.intro hq2 (And.intro hq3 hq4))))
    have p1 := eq_true P0.out
    have q1 := eq_true Q0.out
    have b0 := World.block_lt_of_cell? w2 _ hx0
    have b1 := World.block_lt_of_cell? w2 _ hx2_0
    clear hm2 hq1 hq2 hq3 hq4
    go_region
    have hb5 := below_drew1 (below_alloc (Below.refl w2.heap.size w2) (.cells #[.slice (some ad) m.length cm, .int .i64 f.f0, .int .i64 f.f1, .slice Ar f.f2.length cr, .slice Ab f.f3.length cb] 120))
    have hx5 := blk_drew (blk_new w2 (.cells #[.slice (some ad) m.length cm, .int .i64 f.f0, .int .i64 f.f1, .slice Ar f.f2.length cr, .slice Ab f.f3.length cb] 120))
    generalize (w2.alloc (.cells #[.slice (some ad) m.length cm, .int .i64 f.f0, .int .i64 f.f1, .slice Ar f.f2.length cr, .slice Ab f.f3.length cb] 120)).drew = w5 at hb5 hx5 ⊢
    generalize w2.heap.size = g5 at hx5 ⊢
    have HL := Aside0.mk (show Lk w5 g5 m f (some ad) cm Ar cr Ab cb from ⟨hx5, Kd.C_below HL2.out.1 hb5, Kd.C_below HL2.out.2.2.1 hb5, Kd.C_below HL2.out.2.2.2.2 hb5, HCM.out, HL2.out.2.1, HL2.out.2.2.2.1⟩)
    replace H0 := Aside0.mk (below_step H0.out hb5)
    replace HB := Aside0.mk (Below.refl w5.heap.size w5)
    clear hb5 hx5 HL2 HM hx0 hx1 hx2 hx3 p1 q1 b0 b1 hx2_0
    rcases bool_two (smallB f.f2 f.f3) with hs | hs
    rotate_left
    · have hv := HV.out
      rw [if_neg (by rw [hs]; simp)] at hv
      subst hv
      have HS2 := Aside0.mk hs
      clear hs
      have hk1 := (HL.out.below HB.out).c1
      have hk2 := (HL.out.below HB.out).c2
      have hk3 := (HL.out.below HB.out).c3
      have hk4 := (HL.out.below HB.out).c4
      have hlx := HL.out.below HB.out
      have hcon := small_any f HS.out hlx.regs hlx.cr hlx.blocks hlx.cb
      clear hlx
      go_wp2_with (fail)
      refine hcon.mono ?_
      rw [HS2.out]
      rintro e w6 ⟨rfl, hb⟩
      have HB := Aside0.mk (below_step HB.out hb)
      clear hb
      go_wp2
      go_ret
      exact ⟨rfl, below_step H0.out HB.out⟩
    have hv := HV.out
    rw [if_pos hs] at hv
    replace HV := Aside0.mk hv
    have HS1 := Aside0.mk hs
    clear hs hv
    have hk1 := (HL.out.below HB.out).c1
    have hk2 := (HL.out.below HB.out).c2
    have hk3 := (HL.out.below HB.out).c3
    have hk4 := (HL.out.below HB.out).c4
    have hlx := HL.out.below HB.out
    have hcon := small_any f HS.out hlx.regs hlx.cr hlx.blocks hlx.cb
    clear hlx
    go_wp2_with (fail)
    refine hcon.mono ?_
    rw [HS1.out]
    rintro e w6 ⟨rfl, hb⟩
    replace HB := Aside0.mk (below_step HB.out hb)
    clear hb hcon hk1 hk2 hk3 hk4
    rcases bool_two (typedB f) with hs | hs
    rotate_left
    · have hv := HV.out
      rw [if_neg (by rw [hs]; simp)] at hv
      subst hv
      have HS2 := Aside0.mk hs
      clear hs
      have hk1 := (HL.out.below HB.out).c1
      have hk2 := (HL.out.below HB.out).c2
      have hk3 := (HL.out.below HB.out).c3
      have hk4 := (HL.out.below HB.out).c4
      have hlx := HL.out.below HB.out
      have hcon := typed_any f Ar cr Ab cb hlx.regs
      clear hlx
      go_wp2_with (fail)
      refine hcon.mono ?_
      rw [HS2.out]
      rintro e w6 ⟨rfl, hb⟩
      have HB := Aside0.mk (below_step HB.out hb)
      clear hb
      go_wp2
      go_ret
      exact ⟨rfl, below_step H0.out HB.out⟩
    have hv := HV.out
    rw [if_pos hs] at hv
    replace HV := Aside0.mk hv
    have HT1 := Aside0.mk hs
    clear hs hv
    have hk1 := (HL.out.below HB.out).c1
    have hk2 := (HL.out.below HB.out).c2
    have hk3 := (HL.out.below HB.out).c3
    have hk4 := (HL.out.below HB.out).c4
    have hlx := HL.out.below HB.out
    have hcon := typed_any f Ar cr Ab cb hlx.regs
    clear hlx
    go_wp2_with (fail)
    refine hcon.mono ?_
    rw [HT1.out]
    rintro e w6 ⟨rfl, hb⟩
    replace HB := Aside0.mk (below_step HB.out hb)
    clear hb hcon hk1 hk2 hk3 hk4
    have hk4 := (HL.out.below HB.out).c4
    go_wp2
    clear hk4
    go_loopw [55] (fun v55 wr => ∃ k : Nat, k ≤ f.f3.length ∧ v55 = .int .i64 k ∧ Aside0 (∀ j, j < k → endsB f.f3.length (f.f3.getD j z56).f2 = true) ∧ Aside0 (Below w5.heap.size w5 wr)) (fun v55 _ => f.f3.length - (intOf v55).toNat)
    case atStart => exact ⟨0, Nat.zero_le _, rfl, ⟨fun j hj => absurd hj (Nat.not_lt_zero _)⟩, HB⟩
    case round =>
      clear HB
      obtain ⟨k, hk, rfl, HK, HB⟩ := hrel
      have hxl := HL.out.blocks.2.1
      by_cases hlt : k < f.f3.length
      · have e0 : decide ((k : Int) < (f.f3.length : Int)) = true := decide_eq_true (by omega)
        have p0 : 0 ≤ (k : Int) := by omega
        have q0 : (k : Int) < (f.f3.length : Int) := by omega
        obtain ⟨ab, A0, c0, A1, c1, A4, c4, ex, hx0, hx1, hx2, hx3, hx4, hl0, hi0, hl1, hi1, hl4, hi4⟩ := at_T56 (HL.out.below HB.out).blocks k p0 q0
        cases ex
        rw [Int.toNat_natCast] at hx0 hx1 hx2 hx3 hx4
        have hto := HS.out.t k hlt
        obtain ⟨x, hx⟩ : ∃ x, x = rd_T56 f.f3 (k : Int) := ⟨_, rfl⟩
        have hgx : f.f3.getD k z56 = x := by rw [hx]; rfl
        rw [← hx] at hx0 hx1 hx2 hx3 hx4 hl0 hi0 hl1 hi1 hl4 hi4
        rw [show tos f.f3 k = x.f2.f2 from congrArg (fun b => b.f2.f2) hgx] at hto
        have HX := Aside0.mk hgx
        clear hx hgx
        have p1 := eq_true p0
        have q1 := eq_true q0
        have HI4 := Aside0.mk (And.intro hl4 (And.intro hi4 hto))
        have HLT := Aside0.mk hlt
        clear hl0 hi0 hl1 hi1 hl4 hi4 hto p0 q0 hlt
        go_upto_region 11 with (fail)
        have hb7 := below_alloc (Below.refl wr.heap.size wr) (.cells #[.slice A0 x.f0.length c0, .slice A1 x.f1.length c1, .int .i64 x.f2.f0, .int .i64 x.f2.f1, .slice A4 x.f2.f2.length c4] 56)
        have hx7 := blk_new wr (.cells #[.slice A0 x.f0.length c0, .slice A1 x.f1.length c1, .int .i64 x.f2.f0, .int .i64 x.f2.f1, .slice A4 x.f2.f2.length c4] 56)
        generalize wr.alloc (.cells #[.slice A0 x.f0.length c0, .slice A1 x.f1.length c1, .int .i64 x.f2.f0, .int .i64 x.f2.f1, .slice A4 x.f2.f2.length c4] 56) = w7 at hb7 hx7 ⊢
        generalize wr.heap.size = g7 at hx7 ⊢
        have HI7 := Aside0.mk (Kd.C_below HI4.out.2.1 hb7)
        have hb8 := below_step HB.out hb7
        have hl7 := HL.out.below hb8
        have HL7 := Aside0.mk hl7
        have HB8 := Aside0.mk hb8
        have f1 := far_cell hl7.c1
        have f2 := far_cell hl7.c2
        have f3 := far_cell hl7.c3
        have f4 := far_cell hl7.c4
        have f5 := far_cell ((blk_cell hx7 2).trans (show _ = some (.int .i64 x.f2.f0) from rfl))
        have f6 := far_cell ((blk_cell hx7 3).trans (show _ = some (.int .i64 x.f2.f1) from rfl))
        have f7 := far_cell ((blk_cell hx7 4).trans (show _ = some (.slice A4 x.f2.f2.length c4) from rfl))
        clear hb7 hx7 hb8 hl7 hx0 hx1 hx2 hx3 hx4
        refine region_far (by kernel_rfl) (by kernel_rfl) ?_
        repeat (quiet_step ((go_at_call 63; refine Calls.far (ends_any f x.f2 A4 c4 HI4.out.2.2 (HL7.out.below (Far.h _)).regs HL7.out.cr (HL7.out.below (Far.h _)).blocks HL7.out.cb (Kd.C_below HI7.out (Far.h _)) HI4.out.1))))
        refine wpQuiet_nil ?_
        rintro _ ⟨⟨w9, hb⟩, rfl⟩
        replace HB := Aside0.mk (below_step HB8.out hb)
        clear hb f1 f2 f3 f4 f5 f6 f7
        cases hq : endsB f.f3.length x.f2 with
        | true =>
          have HQ := Aside0.mk hq
          clear hq
          have hlt := HLT.out
          go_wp2
          go_roundw
          case rel =>
            refine ⟨k + 1, hlt, by go_num, ⟨fun j hj => ?_⟩, HB⟩
            by_cases e : j = k
            · subst e
              rw [HX.out]
              exact HQ.out
            · exact HK.out j (by omega)
          case measure => simp [intOf]; omega
        | false =>
          have HQ := Aside0.mk hq
          clear hq
          have hv := HV.out
          rw [if_neg (not_all_getD (z := z56) HLT.out (by rw [HX.out]; exact HQ.out))] at hv
          subst hv
          go_wp2
          go_ret
          exact ⟨rfl, below_step H0.out HB.out⟩
      · have e0 : decide ((k : Int) < (f.f3.length : Int)) = false := decide_eq_false (by omega)
        obtain rfl : k = f.f3.length := by omega
        have hv := HV.out
        rw [if_pos (all_getD (z := z56) HK.out)] at hv
        replace HV := Aside0.mk hv
        clear hv hlt hk hxl HK
        obtain ⟨wo, rfl⟩ : ∃ wo : World, wo = wr := ⟨_, rfl⟩
        have hk1 := (HL.out.below HB.out).c1
        have hk2 := (HL.out.below HB.out).c2
        have hk3 := (HL.out.below HB.out).c3
        have hk4 := (HL.out.below HB.out).c4
        have hlx := HL.out.below HB.out
        have hcon := ahead_any f HS.out hlx.regs hlx.cr hlx.blocks hlx.cb
        clear hlx
        go_wp2_with (fail)
        refine hcon.mono ?_
        rintro e w10 ⟨⟨Aa, ca, R, rfl, hC, hRl, hRv⟩, hb⟩
        have HB10 := Aside0.mk (below_step HB.out hb)
        have HC := Aside0.mk hC
        have HRL := Aside0.mk hRl
        have HRV := Aside0.mk hRv
        have HBR := Aside0.mk (Below.refl w10.heap.size w10)
        clear hb hC hRl hRv hcon hk1 hk2 hk3 hk4 HB
        go_wp2
        go_loopw [75] (fun v75 wr => ∃ k : Nat, k ≤ R.length ∧ v75 = .int .i64 k ∧ Aside0 (∀ j, j < k → phiOk f.f3 j = true) ∧ Aside0 (Below w10.heap.size w10 wr)) (fun v75 _ => R.length - (intOf v75).toNat)
        case atStart => exact ⟨0, Nat.zero_le _, rfl, ⟨fun j hj => absurd hj (Nat.not_lt_zero _)⟩, HBR⟩
        case round =>
          clear HBR
          obtain ⟨k, hk, rfl, HK, HBR⟩ := hrel
          have hxl := HC.out.2.1
          by_cases hlt : k < R.length
          · have e0 : decide ((k : Int) < (R.length : Int)) = true := decide_eq_true (by omega)
            have hlx := (HL.out.below HB10.out).below HBR.out
            have hk4 := hlx.c4
            obtain ⟨aR, A8, c8, ex, hz, _⟩ := rows_at (Kd.C_below HC.out HBR.out) k hlt
            cases ex
            have hlf : k < f.f3.length := by have := HRL.out; omega
            obtain ⟨row, hrow⟩ : ∃ row, row = R.getD k [] := ⟨_, rfl⟩
            rw [← hrow] at hz
            have HROW := Aside0.mk (hrow.trans (HRV.out k hlf))
            clear hrow
            have p0 : 0 ≤ (k : Int) := by omega
            have q0 : (k : Int) < (f.f3.length : Int) := by omega
            have q2 : (k : Int) < (R.length : Int) := by omega
            obtain ⟨ab, A0, c0, A1, c1, A4, c4, ex, hx0, _, _, _, _, hl0, hi0, _⟩ := at_T56 (HL.out.below HB10.out).blocks k p0 q0
            cases ex
            rw [Int.toNat_natCast] at hx0
            obtain ⟨x, hx⟩ : ∃ x, x = rd_T56 f.f3 (k : Int) := ⟨_, rfl⟩
            have hgx : f.f3.getD k z56 = x := by rw [hx]; rfl
            rw [← hx] at hx0 hi0
            have HX := Aside0.mk hgx
            have HLT := Aside0.mk hlf
            have HI0 := Aside0.mk hi0
            replace hx0 := (HBR.out.cell (World.block_lt_of_cell? w10 _ hx0)).trans hx0
            have p1 := eq_true p0
            have q1 := eq_true q0
            have q3 := eq_true q2
            clear hx hgx hlx hl0 hi0 hlf p0 q0 q2 hlt
            go_wp2
            clear hx0 hk4 hz
            go_loopw [90] (fun v90 wq => ∃ q : Nat, q ≤ x.f0.length ∧ v90 = .int .i64 q ∧ Aside0 (∀ j, j < q → (x.f0.getD j z60).f1.length = row.length) ∧ Aside0 (Below w10.heap.size w10 wq)) (fun v90 _ => x.f0.length - (intOf v90).toNat)
            case atStart => exact ⟨0, Nat.zero_le _, rfl, ⟨fun j hj => absurd hj (Nat.not_lt_zero _)⟩, HBR⟩
            case round =>
              clear HBR
              obtain ⟨q, hq, rfl, HQ, HBR⟩ := hrel
              have hxl2 := HI0.out.2.1
              by_cases hlt2 : q < x.f0.length
              · have e1 : decide ((q : Int) < (x.f0.length : Int)) = true := decide_eq_true (by omega)
                have p0 : 0 ≤ (q : Int) := by omega
                have q0 : (q : Int) < (x.f0.length : Int) := by omega
                obtain ⟨ap, A6, c6, ex, hy0, hy1, hl6, hi6⟩ := at_T60 (Kd.C_below HI0.out HBR.out) q p0 q0
                cases ex
                rw [Int.toNat_natCast] at hy0 hy1
                obtain ⟨y, hy⟩ : ∃ y, y = rd_T60 x.f0 (q : Int) := ⟨_, rfl⟩
                have hgy : x.f0.getD q z60 = y := by rw [hy]; rfl
                rw [← hy] at hy0 hy1
                have HY := Aside0.mk hgy
                have p1 := eq_true p0
                have q1 := eq_true q0
                clear hy hgy hl6 hi6 p0 q0
                by_cases hn : (y.f1.length : Int) = (row.length : Int)
                · have HN := Aside0.mk hn
                  have d1 : ((y.f1.length : Int) == (row.length : Int)) = true := beq_iff_eq.mpr hn
                  have d2 : ((y.f1.length : Int) != (row.length : Int)) = false := by rw [bne, d1]; rfl
                  clear hn
                  go_wp2
                  go_roundw
                  case rel =>
                    refine ⟨q + 1, hlt2, by go_num, ⟨fun j hj => ?_⟩, ⟨by repeat (with_reducible first | exact HBR.out | apply below_alloc | apply pw_below_drewN | apply below_drew1)⟩⟩
                    by_cases e : j = q
                    · subst e
                      rw [HY.out]
                      have := HN.out
                      omega
                    · exact HQ.out j (by omega)
                  case measure => simp [intOf]; omega
                · have HN := Aside0.mk hn
                  have d1 : ((y.f1.length : Int) == (row.length : Int)) = false := beq_eq_false_iff_ne.mpr hn
                  have d2 : ((y.f1.length : Int) != (row.length : Int)) = true := bne_iff_ne.mpr hn
                  clear hn
                  have hno : phiOk f.f3 k = false := by
                    have hr := HROW.out
                    rw [← Bool.not_eq_true]
                    intro ha
                    unfold phiOk at ha
                    have hp := List.all_eq_true.mp ha y (by rw [HX.out, ← HY.out]; exact getD_mem _ _ _ hlt2)
                    have hp2 := of_decide_eq_true hp
                    rw [← hr] at hp2
                    exact HN.out (by omega)
                  have hv := HV.out
                  rw [if_neg (fun ha => by
                    have := List.all_eq_true.mp ha k (List.mem_range.mpr HLT.out)
                    rw [hno] at this
                    exact absurd this (by simp))] at hv
                  subst hv
                  clear hno
                  go_wp2
                  go_ret
                  exact ⟨rfl, below_step H0.out (by repeat (with_reducible first | exact below_step HB10.out HBR.out | apply below_alloc | apply pw_below_drewN | apply below_drew1))⟩
              · have e1 : decide ((q : Int) < (x.f0.length : Int)) = false := decide_eq_false (by omega)
                obtain rfl : q = x.f0.length := by omega
                have HP := Aside0.mk (show phiOk f.f3 k = true by
                  unfold phiOk
                  rw [HX.out]
                  refine all_getD (z := z60) fun j hj => ?_
                  rw [HQ.out j hj, HROW.out]
                  exact decide_eq_true rfl)
                have hlt := HLT.out
                have hrl := HRL.out
                clear hlt2 hq hxl2 HQ
                go_wp2
                go_roundw
                case rel =>
                  refine ⟨k + 1, by omega, by go_num, ⟨fun j hj => ?_⟩, HBR⟩
                  by_cases e : j = k
                  · subst e
                    exact HP.out
                  · exact HK.out j (by omega)
                case measure => simp [intOf]; omega
          · have e0 : decide ((k : Int) < (R.length : Int)) = false := decide_eq_false (by omega)
            obtain rfl : k = R.length := by omega
            have hv := HV.out
            rw [if_pos (by
              rw [List.all_eq_true]
              intro j hj
              exact HK.out j (by have := List.mem_range.mp hj; have := HRL.out; omega))] at hv
            replace HV := Aside0.mk hv
            have hk4 := ((HL.out.below HB10.out).below HBR.out).c4
            clear hv hlt hk hxl HK
            go_wp2
            clear hk4
            obtain ⟨wo, rfl⟩ : ∃ wo : World, wo = wr := ⟨_, rfl⟩
            go_loopw [109] (fun v109 wr => ∃ k : Nat, k ≤ f.f3.length ∧ v109 = .int .i64 k ∧ Aside0 (∀ j, j < k → blockE m f (f.f3.getD j z56) = none) ∧ Aside0 (Below w10.heap.size w10 wr)) (fun v109 _ => f.f3.length - (intOf v109).toNat)
            case atStart => exact ⟨0, Nat.zero_le _, rfl, ⟨fun j hj => absurd hj (Nat.not_lt_zero _)⟩, HBR⟩
            case round =>
              clear HBR
              obtain ⟨k, hk, rfl, HK, HBR⟩ := hrel
              have hxl := HL.out.blocks.2.1
              by_cases hlt : k < f.f3.length
              · have e0 : decide ((k : Int) < (f.f3.length : Int)) = true := decide_eq_true (by omega)
                have p0 : 0 ≤ (k : Int) := by omega
                have q0 : (k : Int) < (f.f3.length : Int) := by omega
                have hlx := (HL.out.below HB10.out).below HBR.out
                obtain ⟨ab, A0, c0, A1, c1, A4, c4, ex, hx0, hx1, hx2, hx3, hx4, hl0, hi0, hl1, hi1, hl4, hi4⟩ := at_T56 hlx.blocks k p0 q0
                cases ex
                rw [Int.toNat_natCast] at hx0 hx1 hx2 hx3 hx4
                have hcon := fun W (hW : Below wr.heap.size wr W) => block_any (w := W) (hlx.below hW) (rd_T56 f.f3 (k : Int)) A0 c0 A1 c1 A4 c4 (Kd.C_below hi0 hW) (Kd.C_below hi1 hW)
                obtain ⟨x, hx⟩ : ∃ x, x = rd_T56 f.f3 (k : Int) := ⟨_, rfl⟩
                have hgx : f.f3.getD k z56 = x := by rw [hx]; rfl
                rw [← hx] at hx0 hx1 hx2 hx3 hx4 hcon
                have HX := Aside0.mk hgx
                have p1 := eq_true p0
                have q1 := eq_true q0
                have HC2 := Aside0.mk hcon
                clear hx hgx hlx hl0 hi0 hl1 hi1 hl4 hi4 hcon p0 q0
                cases hq : blockE m f x with
                | none =>
                  have HQ := Aside0.mk hq
                  clear hq
                  go_wp2_with (fail)
                  refine (HC2.out _ (by repeat (with_reducible first | exact Below.refl _ _ | apply below_alloc))).mono ?_
                  rw [HQ.out, errW_none]
                  rintro e w11 ⟨rfl, hb⟩
                  have HB11 := Aside0.mk (below_step (below_alloc HBR.out _) hb)
                  clear hb
                  go_wp2
                  go_roundw
                  case rel =>
                    refine ⟨k + 1, hlt, by go_num, ⟨fun j hj => ?_⟩, HB11⟩
                    by_cases e : j = k
                    · subst e
                      rw [HX.out]
                      exact HQ.out
                    · exact HK.out j (by omega)
                  case measure => simp [intOf]; omega
                | some v =>
                  have HQ := Aside0.mk hq
                  clear hq
                  go_wp2_with (fail)
                  refine (HC2.out _ (by repeat (with_reducible first | exact Below.refl _ _ | apply below_alloc))).mono ?_
                  rw [HQ.out, errW_some]
                  rintro e w11 ⟨rfl, hb⟩
                  have HB11 := Aside0.mk (below_step (below_alloc HBR.out _) hb)
                  clear hb
                  have hv := HV.out
                  rw [find_at (z := z56) hlt HK.out (by rw [HX.out]; exact HQ.out)] at hv
                  subst hv
                  go_wp2
                  go_ret
                  exact ⟨rfl, below_step H0.out (below_step HB10.out HB11.out)⟩
              · have e0 : decide ((k : Int) < (f.f3.length : Int)) = false := decide_eq_false (by omega)
                obtain rfl : k = f.f3.length := by omega
                have hv := HV.out
                rw [find_no (z := z56) HK.out] at hv
                subst hv
                go_wp2
                go_ret
                exact ⟨rfl, below_step H0.out (below_step HB10.out HBR.out)⟩
  exact key _ rfl
end Go.Proofs.YtckebppacealeaaDoor.Lk
