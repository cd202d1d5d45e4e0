/- How many arguments an instruction has, and the type of its result, as the checker tells it. Conditions: the looker stands. -/
import Derived.Test.YtckebppacealeaaDoorLc
import Derived.BigRegion
namespace Go.Proofs.YtckebppacealeaaDoor.Lk
open Go.RowKit Go.Proofs.YtckebppacealeaaDoorW.PrintWords Go.Proofs.YtckebppacealeaaDoorW.PrintLast Go.Proofs.YtckebppacealeaaDoorW.PrintMore Go.Proofs.YtckebppacealeaaDoorW.PrintWords.Kd Go.Proofs.YtckebppacealeaaDoor.PCodeUnlike
attribute [local go_sem] max2_int min2_int max_two min_two max_three min_three max_four min_four
set_option linter.unusedVariables false
set_option linter.unusedSimpArgs false
variable {w w1 : World} {bl : Nat} {m : List Fn} {f : Fn} {Am : Option Addr} {cm : Nat} {Ar : Option Addr} {cr : Nat} {Ab : Option Addr} {cb : Nat}
def argsV (op : Int) : Int × Bool := if op = 2 then (1, true) else if op = 14 then (1, true) else if 3 ≤ op ∧ op ≤ 13 then (2, true) else (0, false)
theorem args_any (op : Int) (w : World) : Calls Tryd.prog 89 #[.int .i64 op] w fun e w' => e = .returned (.tuple #[.int .i64 (argsV op).1, .bool (argsV op).2]) ∧ Below w.heap.size w w' := by
  have key : arith_Args.f 1 op = some ((argsV op).1, (argsV op).2) := by
    unfold arith_Args.f argsV
    by_cases h2 : op = 2
    · rw [if_pos h2, if_pos h2]; rfl
    · rw [if_neg h2, if_neg h2]
      have j : ∀ b, arith_Args.j0 1 op b = if b = true then (some (1, true)) else (if op ≥ 3 then (if op ≤ 13 then (some (2, true)) else (some (0, false))) else (some (0, false))) := fun _ => rfl
      rw [j]
      by_cases h14 : op = 14
      · subst h14; rfl
      · have e : (op == 14) = false := beq_eq_false_iff_ne.mpr h14
        rw [e, if_neg Bool.false_ne_true, if_neg h14]
        by_cases h3 : 3 ≤ op
        · by_cases h13 : op ≤ 13
          · rw [if_pos h3, if_pos h13, if_pos ⟨h3, h13⟩]
          · rw [if_pos h3, if_neg h13, if_neg (fun h => h13 h.2)]
        · rw [if_neg h3, if_neg (fun h => h3 h.1)]
  exact (arith_Args.calls 1 op _ _ w key).mono fun _ _ ⟨he, hd⟩ => ⟨he, hd.below⟩
def arityV (m : List Fn) (x : In) : Int × Int × Option Int :=
  if (argsV x.f0).2 = true then ((argsV x.f0).1, 1, none)
  else if x.f0 = 1 then (0, 1, none) else if x.f0 = 15 then (1, 1, none) else if x.f0 = 18 then (1, 0, none) else if x.f0 = 16 then (2, 0, none)
  else if x.f0 = 17 then (if x.f4 < 0 then (0, 0, some 4) else if x.f4 < m.length then ((rd_T50 m x.f4).f0, (rd_T50 m x.f4).f1, none) else (0, 0, some 4))
  else (0, 0, some 6)
set_option maxHeartbeats 4000000 in
set_option maxRecDepth 100000 in
theorem arity_any (h : Lk w bl m f Am cm Ar cr Ab cb) (x : In) (A : Option Addr) (c : Nat) :
    Calls Tryd.prog 85 #[.pointer (some ⟨bl, 0, none⟩), .agg #[.int .i64 x.f0, .int .i64 x.f1, .slice A x.f2.length c, .int .i64 x.f3, .int .i64 x.f4]] w fun e w' => e = .returned (.tuple #[.int .i64 (arityV m x).1, .int .i64 (arityV m x).2.1, errW (arityV m x).2.2]) ∧ Below w.heap.size w w' := by
  have HL := Aside0.mk h
  clear h
  obtain ⟨op, dst, xs, imm, fn⟩ := x
  generalize xs.length = na
  unfold arityV
  dsimp only
  cases ha : (argsV op).2 with
  | true =>
    rw [if_pos rfl]
    have hcon := fun W => args_any op W
    rw [ha] at hcon
    generalize (argsV op).1 = n at hcon ⊢
    go_enter Tryd.func85, Tryd.ntmps85
    go_wp2_with (first | ((with_reducible refine gate_dst (N := 3) rfl ?_); refine box_event ?hg (N := 3) ?hd (cs := #[.int .i64 op, .int .i64 dst, .slice A na c, .int .i64 imm, .int .i64 fn]) (t := 58) ?hr ?_; (case hd => rfl); (case hg => rfl); (case hr => first | (go_simp; done) | (go_simp; rfl)); intro gb3 hg w2 hbox hb; have BX3 := Aside0.mk hbox; have H0 := Aside0.mk hb; have HG3 := Aside0.mk hg; have HB := Aside0.mk (Below.refl w2.heap.size w2); clear hbox hb hg; have hx3_0 : w2.cell? ⟨gb3, 0, none⟩ = some (.int .i64 op) := (blk_cell BX3.out 0).trans rfl; have hx3_1 : w2.cell? ⟨gb3, 1, none⟩ = some (.int .i64 dst) := (blk_cell BX3.out 1).trans rfl; have hx3_2 : w2.cell? ⟨gb3, 2, none⟩ = some (.slice A na c) := (blk_cell BX3.out 2).trans rfl; have hx3_3 : w2.cell? ⟨gb3, 3, none⟩ = some (.int .i64 imm) := (blk_cell BX3.out 3).trans rfl; have hx3_4 : w2.cell? ⟨gb3, 4, none⟩ = some (.int .i64 fn) := (blk_cell BX3.out 4).trans rfl) | (go_at_call 89; refine (hcon _).mono ?_; rintro e w3 ⟨rfl, hb⟩; have HB2 := Aside0.mk hb; clear hb))
    go_ret3
    exact ⟨rfl, below_step H0.out HB2.out⟩
  | false =>
    rw [if_neg (by simp)]
    have hcon := fun W => args_any op W
    rw [ha] at hcon
    have hn : (argsV op).1 = 0 := by
      unfold argsV at ha ⊢
      by_cases h2 : op = 2
      · rw [if_pos h2] at ha
        exact absurd ha (by simp)
      rw [if_neg h2] at ha ⊢
      by_cases h14 : op = 14
      · rw [if_pos h14] at ha
        exact absurd ha (by simp)
      rw [if_neg h14] at ha ⊢
      by_cases h3 : 3 ≤ op ∧ op ≤ 13
      · rw [if_pos h3] at ha
        exact absurd ha (by simp)
      rw [if_neg h3]
    rw [hn] at hcon
    clear ha hn
    have key : ∀ r, (if op = 1 then ((0 : Int), (1 : Int), none) else if op = 15 then (1, 1, none) else if op = 18 then (1, 0, none) else if op = 16 then (2, 0, none) else if op = 17 then (if fn < 0 then (0, 0, some 4) else if fn < m.length then ((rd_T50 m fn).f0, (rd_T50 m fn).f1, none) else (0, 0, some 4)) else (0, 0, some (6 : Int))) = r →
        Calls Tryd.prog 85 #[.pointer (some ⟨bl, 0, none⟩), .agg #[.int .i64 op, .int .i64 dst, .slice A na c, .int .i64 imm, .int .i64 fn]] w fun e w' => e = .returned (.tuple #[.int .i64 r.1, .int .i64 r.2.1, errW r.2.2]) ∧ Below w.heap.size w w' := by
      intro r hr
      by_cases o1 : op = 1
      · subst o1
        rw [if_pos rfl] at hr
        subst hr
        go_enter Tryd.func85, Tryd.ntmps85
        go_wp2_with (first | ((with_reducible refine gate_dst (N := 3) rfl ?_); refine box_event ?hg (N := 3) ?hd (cs := #[.int .i64 1, .int .i64 dst, .slice A na c, .int .i64 imm, .int .i64 fn]) (t := 58) ?hr ?_; (case hd => rfl); (case hg => rfl); (case hr => first | (go_simp; done) | (go_simp; rfl)); intro gb3 hg w2 hbox hb; have BX3 := Aside0.mk hbox; have H0 := Aside0.mk hb; have HG3 := Aside0.mk hg; have HB := Aside0.mk (Below.refl w2.heap.size w2); clear hbox hb hg; have hx3_0 : w2.cell? ⟨gb3, 0, none⟩ = some (.int .i64 1) := (blk_cell BX3.out 0).trans rfl; have hx3_1 : w2.cell? ⟨gb3, 1, none⟩ = some (.int .i64 dst) := (blk_cell BX3.out 1).trans rfl; have hx3_2 : w2.cell? ⟨gb3, 2, none⟩ = some (.slice A na c) := (blk_cell BX3.out 2).trans rfl; have hx3_3 : w2.cell? ⟨gb3, 3, none⟩ = some (.int .i64 imm) := (blk_cell BX3.out 3).trans rfl; have hx3_4 : w2.cell? ⟨gb3, 4, none⟩ = some (.int .i64 fn) := (blk_cell BX3.out 4).trans rfl) | (go_at_call 89; refine (hcon _).mono ?_; rintro e w3 ⟨rfl, hb⟩; have hz := bx_cell BX3.out hb 0 (v := .int .i64 1) rfl; have HB2 := Aside0.mk hb; clear hb))
        go_ret3
        exact ⟨rfl, below_step H0.out HB2.out⟩
      rw [if_neg o1] at hr
      by_cases o15 : op = 15
      · subst o15
        rw [if_pos rfl] at hr
        subst hr
        go_enter Tryd.func85, Tryd.ntmps85
        go_wp2_with (first | ((with_reducible refine gate_dst (N := 3) rfl ?_); refine box_event ?hg (N := 3) ?hd (cs := #[.int .i64 15, .int .i64 dst, .slice A na c, .int .i64 imm, .int .i64 fn]) (t := 58) ?hr ?_; (case hd => rfl); (case hg => rfl); (case hr => first | (go_simp; done) | (go_simp; rfl)); intro gb3 hg w2 hbox hb; have BX3 := Aside0.mk hbox; have H0 := Aside0.mk hb; have HG3 := Aside0.mk hg; have HB := Aside0.mk (Below.refl w2.heap.size w2); clear hbox hb hg; have hx3_0 : w2.cell? ⟨gb3, 0, none⟩ = some (.int .i64 15) := (blk_cell BX3.out 0).trans rfl; have hx3_1 : w2.cell? ⟨gb3, 1, none⟩ = some (.int .i64 dst) := (blk_cell BX3.out 1).trans rfl; have hx3_2 : w2.cell? ⟨gb3, 2, none⟩ = some (.slice A na c) := (blk_cell BX3.out 2).trans rfl; have hx3_3 : w2.cell? ⟨gb3, 3, none⟩ = some (.int .i64 imm) := (blk_cell BX3.out 3).trans rfl; have hx3_4 : w2.cell? ⟨gb3, 4, none⟩ = some (.int .i64 fn) := (blk_cell BX3.out 4).trans rfl) | (go_at_call 89; refine (hcon _).mono ?_; rintro e w3 ⟨rfl, hb⟩; have hz := bx_cell BX3.out hb 0 (v := .int .i64 15) rfl; have HB2 := Aside0.mk hb; clear hb))
        go_ret3
        exact ⟨rfl, below_step H0.out HB2.out⟩
      rw [if_neg o15] at hr
      by_cases o18 : op = 18
      · subst o18
        rw [if_pos rfl] at hr
        subst hr
        go_enter Tryd.func85, Tryd.ntmps85
        go_wp2_with (first | ((with_reducible refine gate_dst (N := 3) rfl ?_); refine box_event ?hg (N := 3) ?hd (cs := #[.int .i64 18, .int .i64 dst, .slice A na c, .int .i64 imm, .int .i64 fn]) (t := 58) ?hr ?_; (case hd => rfl); (case hg => rfl); (case hr => first | (go_simp; done) | (go_simp; rfl)); intro gb3 hg w2 hbox hb; have BX3 := Aside0.mk hbox; have H0 := Aside0.mk hb; have HG3 := Aside0.mk hg; have HB := Aside0.mk (Below.refl w2.heap.size w2); clear hbox hb hg; have hx3_0 : w2.cell? ⟨gb3, 0, none⟩ = some (.int .i64 18) := (blk_cell BX3.out 0).trans rfl; have hx3_1 : w2.cell? ⟨gb3, 1, none⟩ = some (.int .i64 dst) := (blk_cell BX3.out 1).trans rfl; have hx3_2 : w2.cell? ⟨gb3, 2, none⟩ = some (.slice A na c) := (blk_cell BX3.out 2).trans rfl; have hx3_3 : w2.cell? ⟨gb3, 3, none⟩ = some (.int .i64 imm) := (blk_cell BX3.out 3).trans rfl; have hx3_4 : w2.cell? ⟨gb3, 4, none⟩ = some (.int .i64 fn) := (blk_cell BX3.out 4).trans rfl) | (go_at_call 89; refine (hcon _).mono ?_; rintro e w3 ⟨rfl, hb⟩; have hz := bx_cell BX3.out hb 0 (v := .int .i64 18) rfl; have HB2 := Aside0.mk hb; clear hb))
        go_ret3
        exact ⟨rfl, below_step H0.out HB2.out⟩
      rw [if_neg o18] at hr
      by_cases o16 : op = 16
      · subst o16
        rw [if_pos rfl] at hr
        subst hr
        go_enter Tryd.func85, Tryd.ntmps85
        go_wp2_with (first | ((with_reducible refine gate_dst (N := 3) rfl ?_); refine box_event ?hg (N := 3) ?hd (cs := #[.int .i64 16, .int .i64 dst, .slice A na c, .int .i64 imm, .int .i64 fn]) (t := 58) ?hr ?_; (case hd => rfl); (case hg => rfl); (case hr => first | (go_simp; done) | (go_simp; rfl)); intro gb3 hg w2 hbox hb; have BX3 := Aside0.mk hbox; have H0 := Aside0.mk hb; have HG3 := Aside0.mk hg; have HB := Aside0.mk (Below.refl w2.heap.size w2); clear hbox hb hg; have hx3_0 : w2.cell? ⟨gb3, 0, none⟩ = some (.int .i64 16) := (blk_cell BX3.out 0).trans rfl; have hx3_1 : w2.cell? ⟨gb3, 1, none⟩ = some (.int .i64 dst) := (blk_cell BX3.out 1).trans rfl; have hx3_2 : w2.cell? ⟨gb3, 2, none⟩ = some (.slice A na c) := (blk_cell BX3.out 2).trans rfl; have hx3_3 : w2.cell? ⟨gb3, 3, none⟩ = some (.int .i64 imm) := (blk_cell BX3.out 3).trans rfl; have hx3_4 : w2.cell? ⟨gb3, 4, none⟩ = some (.int .i64 fn) := (blk_cell BX3.out 4).trans rfl) | (go_at_call 89; refine (hcon _).mono ?_; rintro e w3 ⟨rfl, hb⟩; have hz := bx_cell BX3.out hb 0 (v := .int .i64 16) rfl; have HB2 := Aside0.mk hb; clear hb))
        go_ret3
        exact ⟨rfl, below_step H0.out HB2.out⟩
      rw [if_neg o16] at hr
      by_cases o17 : op = 17
      · subst o17
        rw [if_pos rfl] at hr
        by_cases c0 : fn < 0
        · rw [if_pos c0] at hr
          subst hr
          have d0 := decide_eq_true c0
          go_enter Tryd.func85, Tryd.ntmps85
          go_wp2_with (first | ((with_reducible refine gate_dst (N := 3) rfl ?_); refine box_event ?hg (N := 3) ?hd (cs := #[.int .i64 17, .int .i64 dst, .slice A na c, .int .i64 imm, .int .i64 fn]) (t := 58) ?hr ?_; (case hd => rfl); (case hg => rfl); (case hr => first | (go_simp; done) | (go_simp; rfl)); intro gb3 hg w2 hbox hb; have BX3 := Aside0.mk hbox; have H0 := Aside0.mk hb; have HG3 := Aside0.mk hg; have HB := Aside0.mk (Below.refl w2.heap.size w2); clear hbox hb hg; have hx3_0 : w2.cell? ⟨gb3, 0, none⟩ = some (.int .i64 17) := (blk_cell BX3.out 0).trans rfl; have hx3_1 : w2.cell? ⟨gb3, 1, none⟩ = some (.int .i64 dst) := (blk_cell BX3.out 1).trans rfl; have hx3_2 : w2.cell? ⟨gb3, 2, none⟩ = some (.slice A na c) := (blk_cell BX3.out 2).trans rfl; have hx3_3 : w2.cell? ⟨gb3, 3, none⟩ = some (.int .i64 imm) := (blk_cell BX3.out 3).trans rfl; have hx3_4 : w2.cell? ⟨gb3, 4, none⟩ = some (.int .i64 fn) := (blk_cell BX3.out 4).trans rfl) | (go_at_call 89; refine (hcon _).mono ?_; rintro e w3 ⟨rfl, hb⟩; have hz := bx_cell BX3.out hb 0 (v := .int .i64 17) rfl; have HB2 := Aside0.mk hb; clear hb))
          have hz4 := bx_cell BX3.out HB2.out 4 (v := .int .i64 fn) rfl
          go_quiet (fail)
          go_wp2
          go_ret3
          exact ⟨rfl, pw_below_drewN (below_step H0.out HB2.out) _⟩
        rw [if_neg c0] at hr
        have d0 : decide (fn < 0) = false := decide_eq_false c0
        by_cases c1 : fn < (m.length : Int)
        · rw [if_pos c1] at hr
          subst hr
          have d1 : decide ((m.length : Int) ≤ fn) = false := decide_eq_false (by omega)
          have P0 := Aside0.mk (show 0 ≤ fn by omega)
          have Q0 := Aside0.mk c1
          clear c0 c1
          go_enter Tryd.func85, Tryd.ntmps85
          go_wp2_with (first | ((with_reducible refine gate_dst (N := 3) rfl ?_); refine box_event ?hg (N := 3) ?hd (cs := #[.int .i64 17, .int .i64 dst, .slice A na c, .int .i64 imm, .int .i64 fn]) (t := 58) ?hr ?_; (case hd => rfl); (case hg => rfl); (case hr => first | (go_simp; done) | (go_simp; rfl)); intro gb3 hg w2 hbox hb; have BX3 := Aside0.mk hbox; have H0 := Aside0.mk hb; have HG3 := Aside0.mk hg; have HB := Aside0.mk (Below.refl w2.heap.size w2); clear hbox hb hg; have hx3_0 : w2.cell? ⟨gb3, 0, none⟩ = some (.int .i64 17) := (blk_cell BX3.out 0).trans rfl; have hx3_1 : w2.cell? ⟨gb3, 1, none⟩ = some (.int .i64 dst) := (blk_cell BX3.out 1).trans rfl; have hx3_2 : w2.cell? ⟨gb3, 2, none⟩ = some (.slice A na c) := (blk_cell BX3.out 2).trans rfl; have hx3_3 : w2.cell? ⟨gb3, 3, none⟩ = some (.int .i64 imm) := (blk_cell BX3.out 3).trans rfl; have hx3_4 : w2.cell? ⟨gb3, 4, none⟩ = some (.int .i64 fn) := (blk_cell BX3.out 4).trans rfl) | (go_at_call 89; refine (hcon _).mono ?_; rintro e w3 ⟨rfl, hb⟩; have hz := bx_cell BX3.out hb 0 (v := .int .i64 17) rfl; have HB2 := Aside0.mk hb; clear hb))
          have hz4 := bx_cell BX3.out HB2.out 4 (v := .int .i64 fn) rfl
          have hl3 := (HL.out.below H0.out).below HB2.out
          have hc0 := (blk_cell hl3.blk 0).trans (show _ = some (.slice Am m.length cm) from rfl)
          go_quiet (fail)
          go_wp2
          have hl4 := hl3.below (pw_below_drewN (Below.refl _ _) nq)
          obtain ⟨ad, A2, c2, A3, c3, e0, hx0, hx1, hx2, hx3, _⟩ := at_T50 hl3.mods fn P0.out Q0.out
          cases e0
          have p1 := eq_true P0.out
          have q1 := eq_true Q0.out
          clear hl3 hl4
          have HB4 := Aside0.mk (pw_below_drewN HB2.out nq)
          have hx0 : (w3.drewN nq).cell? _ = _ := hx0
          have hx1 : (w3.drewN nq).cell? _ = _ := hx1
          have hx2 : (w3.drewN nq).cell? _ = _ := hx2
          have hx3 : (w3.drewN nq).cell? _ = _ := hx3
          have hc0 : (w3.drewN nq).cell? _ = _ := hc0
          have hz4 : (w3.drewN nq).cell? _ = _ := hz4
          generalize w3.drewN nq = w4 at *
          have b0 := World.block_lt_of_cell? w4 _ hx0
          have b1 := World.block_lt_of_cell? w4 _ hc0
          have b2 := World.block_lt_of_cell? w4 _ hz4
          go_region
          go_wp2
          go_quiet (fail)
          go_wp2
          go_ret3
          exact ⟨rfl, below_step H0.out (by repeat (with_reducible first | exact HB4.out | apply below_alloc | apply pw_below_drewN | apply below_drew1))⟩
        · rw [if_neg c1] at hr
          subst hr
          have d1 : decide ((m.length : Int) ≤ fn) = true := decide_eq_true (by omega)
          clear c0 c1
          go_enter Tryd.func85, Tryd.ntmps85
          go_wp2_with (first | ((with_reducible refine gate_dst (N := 3) rfl ?_); refine box_event ?hg (N := 3) ?hd (cs := #[.int .i64 17, .int .i64 dst, .slice A na c, .int .i64 imm, .int .i64 fn]) (t := 58) ?hr ?_; (case hd => rfl); (case hg => rfl); (case hr => first | (go_simp; done) | (go_simp; rfl)); intro gb3 hg w2 hbox hb; have BX3 := Aside0.mk hbox; have H0 := Aside0.mk hb; have HG3 := Aside0.mk hg; have HB := Aside0.mk (Below.refl w2.heap.size w2); clear hbox hb hg; have hx3_0 : w2.cell? ⟨gb3, 0, none⟩ = some (.int .i64 17) := (blk_cell BX3.out 0).trans rfl; have hx3_1 : w2.cell? ⟨gb3, 1, none⟩ = some (.int .i64 dst) := (blk_cell BX3.out 1).trans rfl; have hx3_2 : w2.cell? ⟨gb3, 2, none⟩ = some (.slice A na c) := (blk_cell BX3.out 2).trans rfl; have hx3_3 : w2.cell? ⟨gb3, 3, none⟩ = some (.int .i64 imm) := (blk_cell BX3.out 3).trans rfl; have hx3_4 : w2.cell? ⟨gb3, 4, none⟩ = some (.int .i64 fn) := (blk_cell BX3.out 4).trans rfl) | (go_at_call 89; refine (hcon _).mono ?_; rintro e w3 ⟨rfl, hb⟩; have hz := bx_cell BX3.out hb 0 (v := .int .i64 17) rfl; have HB2 := Aside0.mk hb; clear hb))
          have hz4 := bx_cell BX3.out HB2.out 4 (v := .int .i64 fn) rfl
          have hl3 := (HL.out.below H0.out).below HB2.out
          have hc0 := (blk_cell hl3.blk 0).trans (show _ = some (.slice Am m.length cm) from rfl)
          clear hl3
          go_quiet (fail)
          go_wp2
          go_ret3
          exact ⟨rfl, pw_below_drewN (below_step H0.out HB2.out) _⟩
      rw [if_neg o17] at hr
      subst hr
      have d1 : (op == 1) = false := beq_eq_false_iff_ne.mpr o1
      have d15 : (op == 15) = false := beq_eq_false_iff_ne.mpr o15
      have d18 : (op == 18) = false := beq_eq_false_iff_ne.mpr o18
      have d16 : (op == 16) = false := beq_eq_false_iff_ne.mpr o16
      have d17 : (op == 17) = false := beq_eq_false_iff_ne.mpr o17
      clear o1 o15 o18 o16 o17
      go_enter Tryd.func85, Tryd.ntmps85
      go_wp2_with (first | ((with_reducible refine gate_dst (N := 3) rfl ?_); refine box_event ?hg (N := 3) ?hd (cs := #[.int .i64 op, .int .i64 dst, .slice A na c, .int .i64 imm, .int .i64 fn]) (t := 58) ?hr ?_; (case hd => rfl); (case hg => rfl); (case hr => first | (go_simp; done) | (go_simp; rfl)); intro gb3 hg w2 hbox hb; have BX3 := Aside0.mk hbox; have H0 := Aside0.mk hb; have HG3 := Aside0.mk hg; have HB := Aside0.mk (Below.refl w2.heap.size w2); clear hbox hb hg; have hx3_0 : w2.cell? ⟨gb3, 0, none⟩ = some (.int .i64 op) := (blk_cell BX3.out 0).trans rfl; have hx3_1 : w2.cell? ⟨gb3, 1, none⟩ = some (.int .i64 dst) := (blk_cell BX3.out 1).trans rfl; have hx3_2 : w2.cell? ⟨gb3, 2, none⟩ = some (.slice A na c) := (blk_cell BX3.out 2).trans rfl; have hx3_3 : w2.cell? ⟨gb3, 3, none⟩ = some (.int .i64 imm) := (blk_cell BX3.out 3).trans rfl; have hx3_4 : w2.cell? ⟨gb3, 4, none⟩ = some (.int .i64 fn) := (blk_cell BX3.out 4).trans rfl) | (go_at_call 89; refine (hcon _).mono ?_; rintro e w3 ⟨rfl, hb⟩; have hz := bx_cell BX3.out hb 0 (v := .int .i64 op) rfl; have HB2 := Aside0.mk hb; clear hb))
      go_ret3
      exact ⟨rfl, below_step H0.out HB2.out⟩
    exact key _ rfl
end Go.Proofs.YtckebppacealeaaDoor.Lk
