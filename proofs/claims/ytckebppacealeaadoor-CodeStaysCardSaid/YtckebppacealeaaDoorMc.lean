/- SameFunc and Same of fettleref02 tell whether two functions, modules are the same. Conditions: none. -/
import Derived.Test.YtckebppacealeaaDoorMb
namespace Go.Proofs.YtckebppacealeaaDoor.Lk
open Go.RowKit Go.Proofs.YtckebppacealeaaDoorW.PrintWords Go.Proofs.YtckebppacealeaaDoorW.PrintLast Go.Proofs.YtckebppacealeaaDoorW.PrintMore Go.Proofs.YtckebppacealeaaDoorW.PrintWords.Kd Go.Proofs.YtckebppacealeaaDoor.PCodeUnlike Go.Proofs.YtckebppacealeaaDoor.Lp
attribute [local go_sem] max2_int min2_int max_two min_two max_three min_three max_four min_four
set_option linter.unusedVariables false
set_option linter.unusedSimpArgs false
variable {w w1 : World}
set_option maxHeartbeats 16000000 in
set_option maxRecDepth 100000 in
theorem sameFunc_any (a b : Fn) (A2 A3 B2 B3 : Option Addr) (c2 c3 d2 d3 : Nat) (ha2 : Kd.C (Kd.int .i64) w A2 a.f2.length a.f2) (ha3 : Kd.C k56 w A3 a.f3.length a.f3)
    (hb2 : Kd.C (Kd.int .i64) w B2 b.f2.length b.f2) (hb3 : Kd.C k56 w B3 b.f3.length b.f3) :
    Calls Tryd.prog 38 #[.agg #[.int .i64 a.f0, .int .i64 a.f1, .slice A2 a.f2.length c2, .slice A3 a.f3.length c3], .agg #[.int .i64 b.f0, .int .i64 b.f1, .slice B2 b.f2.length d2, .slice B3 b.f3.length d3]] w (Says w (a = b)) := by
  have HA2 := Aside0.mk ha2
  have HA3 := Aside0.mk ha3
  have HB2 := Aside0.mk hb2
  have HB3 := Aside0.mk hb3
  clear ha2 ha3 hb2 hb3
  by_cases e0 : a.f0 = b.f0
  rotate_left
  · have e0d_1 : ((a.f0) == (b.f0)) = false := beq_eq_false_iff_ne.mpr e0
    have e0d_2 : ((a.f0) != (b.f0)) = true := bne_iff_ne.mpr e0
    have HNO := Aside0.mk (show ¬ a = b from fun h => e0 (by rw [h]))
    clear e0
    go_enter Tryd.func38, Tryd.ntmps38
    go_wp2_with (first | ((with_reducible refine gate_dst (N := 2) rfl ?_); refine box_event ?hg (N := 2) ?hd (cs := #[.int .i64 a.f0, .int .i64 a.f1, .slice A2 a.f2.length c2, .slice A3 a.f3.length c3]) (t := 50) ?hr ?_; (case hd => rfl); (case hg => rfl); (case hr => first | (go_simp; done) | (go_simp; rfl)); intro gb2 hg w2 hbox hb; have BX2 := Aside0.mk hbox; have H0 := Aside0.mk hb; have HG2 := Aside0.mk hg; have HB := Aside0.mk (Below.refl w2.heap.size w2); clear hbox hb hg; have hx2_0 : w2.cell? ⟨gb2, 0, none⟩ = some (.int .i64 a.f0) := (blk_cell BX2.out 0).trans rfl; have hx2_1 : w2.cell? ⟨gb2, 1, none⟩ = some (.int .i64 a.f1) := (blk_cell BX2.out 1).trans rfl; have hx2_2 : w2.cell? ⟨gb2, 2, none⟩ = some (.slice A2 a.f2.length c2) := (blk_cell BX2.out 2).trans rfl; have hx2_3 : w2.cell? ⟨gb2, 3, none⟩ = some (.slice A3 a.f3.length c3) := (blk_cell BX2.out 3).trans rfl) | ((with_reducible refine gate_dst (N := 3) rfl ?_); refine box_event ?hg (N := 3) ?hd (cs := #[.int .i64 b.f0, .int .i64 b.f1, .slice B2 b.f2.length d2, .slice B3 b.f3.length d3]) (t := 50) ?hr ?_; (case hd => rfl); (case hg => rfl); (case hr => first | (go_simp; done) | (go_simp; rfl)); intro gb3 hg w3 hbox hb; have BX3 := Aside0.mk hbox; replace H0 := Aside0.mk (below_step H0.out hb); replace BX2 := Aside0.mk (blk_below BX2.out hb); replace HB := Aside0.mk (Below.refl w3.heap.size w3); clear hbox hb hg; have hx3_0 : w3.cell? ⟨gb3, 0, none⟩ = some (.int .i64 b.f0) := (blk_cell BX3.out 0).trans rfl; have hx3_1 : w3.cell? ⟨gb3, 1, none⟩ = some (.int .i64 b.f1) := (blk_cell BX3.out 1).trans rfl; have hx3_2 : w3.cell? ⟨gb3, 2, none⟩ = some (.slice B2 b.f2.length d2) := (blk_cell BX3.out 2).trans rfl; have hx3_3 : w3.cell? ⟨gb3, 3, none⟩ = some (.slice B3 b.f3.length d3) := (blk_cell BX3.out 3).trans rfl; replace hx2_0 : w3.cell? ⟨gb2, 0, none⟩ = some (.int .i64 a.f0) := (blk_cell BX2.out 0).trans rfl; replace hx2_1 : w3.cell? ⟨gb2, 1, none⟩ = some (.int .i64 a.f1) := (blk_cell BX2.out 1).trans rfl; replace hx2_2 : w3.cell? ⟨gb2, 2, none⟩ = some (.slice A2 a.f2.length c2) := (blk_cell BX2.out 2).trans rfl; replace hx2_3 : w3.cell? ⟨gb2, 3, none⟩ = some (.slice A3 a.f3.length c3) := (blk_cell BX2.out 3).trans rfl))
    go_ret
    exact ⟨⟨false, rfl, ⟨fun h => (by cases h), fun h => absurd h HNO.out⟩⟩, below_step H0.out HB.out⟩
  have e0d_1 : ((a.f0) == (b.f0)) = true := beq_iff_eq.mpr e0
  have e0d_2 : ((a.f0) != (b.f0)) = false := bne_eq_false_iff_eq.mpr e0
  have E0 := Aside0.mk e0
  by_cases e1 : a.f1 = b.f1
  rotate_left
  · have e1d_1 : ((a.f1) == (b.f1)) = false := beq_eq_false_iff_ne.mpr e1
    have e1d_2 : ((a.f1) != (b.f1)) = true := bne_iff_ne.mpr e1
    have HNO := Aside0.mk (show ¬ a = b from fun h => e1 (by rw [h]))
    clear e1
    go_enter Tryd.func38, Tryd.ntmps38
    go_wp2_with (first | ((with_reducible refine gate_dst (N := 2) rfl ?_); refine box_event ?hg (N := 2) ?hd (cs := #[.int .i64 a.f0, .int .i64 a.f1, .slice A2 a.f2.length c2, .slice A3 a.f3.length c3]) (t := 50) ?hr ?_; (case hd => rfl); (case hg => rfl); (case hr => first | (go_simp; done) | (go_simp; rfl)); intro gb2 hg w2 hbox hb; have BX2 := Aside0.mk hbox; have H0 := Aside0.mk hb; have HG2 := Aside0.mk hg; have HB := Aside0.mk (Below.refl w2.heap.size w2); clear hbox hb hg; have hx2_0 : w2.cell? ⟨gb2, 0, none⟩ = some (.int .i64 a.f0) := (blk_cell BX2.out 0).trans rfl; have hx2_1 : w2.cell? ⟨gb2, 1, none⟩ = some (.int .i64 a.f1) := (blk_cell BX2.out 1).trans rfl; have hx2_2 : w2.cell? ⟨gb2, 2, none⟩ = some (.slice A2 a.f2.length c2) := (blk_cell BX2.out 2).trans rfl; have hx2_3 : w2.cell? ⟨gb2, 3, none⟩ = some (.slice A3 a.f3.length c3) := (blk_cell BX2.out 3).trans rfl) | ((with_reducible refine gate_dst (N := 3) rfl ?_); refine box_event ?hg (N := 3) ?hd (cs := #[.int .i64 b.f0, .int .i64 b.f1, .slice B2 b.f2.length d2, .slice B3 b.f3.length d3]) (t := 50) ?hr ?_; (case hd => rfl); (case hg => rfl); (case hr => first | (go_simp; done) | (go_simp; rfl)); intro gb3 hg w3 hbox hb; have BX3 := Aside0.mk hbox; replace H0 := Aside0.mk (below_step H0.out hb); replace BX2 := Aside0.mk (blk_below BX2.out hb); replace HB := Aside0.mk (Below.refl w3.heap.size w3); clear hbox hb hg; have hx3_0 : w3.cell? ⟨gb3, 0, none⟩ = some (.int .i64 b.f0) := (blk_cell BX3.out 0).trans rfl; have hx3_1 : w3.cell? ⟨gb3, 1, none⟩ = some (.int .i64 b.f1) := (blk_cell BX3.out 1).trans rfl; have hx3_2 : w3.cell? ⟨gb3, 2, none⟩ = some (.slice B2 b.f2.length d2) := (blk_cell BX3.out 2).trans rfl; have hx3_3 : w3.cell? ⟨gb3, 3, none⟩ = some (.slice B3 b.f3.length d3) := (blk_cell BX3.out 3).trans rfl; replace hx2_0 : w3.cell? ⟨gb2, 0, none⟩ = some (.int .i64 a.f0) := (blk_cell BX2.out 0).trans rfl; replace hx2_1 : w3.cell? ⟨gb2, 1, none⟩ = some (.int .i64 a.f1) := (blk_cell BX2.out 1).trans rfl; replace hx2_2 : w3.cell? ⟨gb2, 2, none⟩ = some (.slice A2 a.f2.length c2) := (blk_cell BX2.out 2).trans rfl; replace hx2_3 : w3.cell? ⟨gb2, 3, none⟩ = some (.slice A3 a.f3.length c3) := (blk_cell BX2.out 3).trans rfl))
    go_ret
    exact ⟨⟨false, rfl, ⟨fun h => (by cases h), fun h => absurd h HNO.out⟩⟩, below_step H0.out HB.out⟩
  have e1d_1 : ((a.f1) == (b.f1)) = true := beq_iff_eq.mpr e1
  have e1d_2 : ((a.f1) != (b.f1)) = false := bne_eq_false_iff_eq.mpr e1
  have E1 := Aside0.mk e1
  clear e0 e1
  by_cases r2 : a.f2 = b.f2
  rotate_left
  · have R2 := Aside0.mk r2
    have HNO := Aside0.mk (show ¬ a = b from fun h => r2 (by rw [h]))
    clear r2
    go_enter Tryd.func38, Tryd.ntmps38
    go_wp2_with (first | ((with_reducible refine gate_dst (N := 2) rfl ?_); refine box_event ?hg (N := 2) ?hd (cs := #[.int .i64 a.f0, .int .i64 a.f1, .slice A2 a.f2.length c2, .slice A3 a.f3.length c3]) (t := 50) ?hr ?_; (case hd => rfl); (case hg => rfl); (case hr => first | (go_simp; done) | (go_simp; rfl)); intro gb2 hg w2 hbox hb; have BX2 := Aside0.mk hbox; have H0 := Aside0.mk hb; have HG2 := Aside0.mk hg; have HB := Aside0.mk (Below.refl w2.heap.size w2); clear hbox hb hg; have hx2_0 : w2.cell? ⟨gb2, 0, none⟩ = some (.int .i64 a.f0) := (blk_cell BX2.out 0).trans rfl; have hx2_1 : w2.cell? ⟨gb2, 1, none⟩ = some (.int .i64 a.f1) := (blk_cell BX2.out 1).trans rfl; have hx2_2 : w2.cell? ⟨gb2, 2, none⟩ = some (.slice A2 a.f2.length c2) := (blk_cell BX2.out 2).trans rfl; have hx2_3 : w2.cell? ⟨gb2, 3, none⟩ = some (.slice A3 a.f3.length c3) := (blk_cell BX2.out 3).trans rfl) | ((with_reducible refine gate_dst (N := 3) rfl ?_); refine box_event ?hg (N := 3) ?hd (cs := #[.int .i64 b.f0, .int .i64 b.f1, .slice B2 b.f2.length d2, .slice B3 b.f3.length d3]) (t := 50) ?hr ?_; (case hd => rfl); (case hg => rfl); (case hr => first | (go_simp; done) | (go_simp; rfl)); intro gb3 hg w3 hbox hb; have BX3 := Aside0.mk hbox; replace H0 := Aside0.mk (below_step H0.out hb); replace BX2 := Aside0.mk (blk_below BX2.out hb); replace HB := Aside0.mk (Below.refl w3.heap.size w3); clear hbox hb hg; have hx3_0 : w3.cell? ⟨gb3, 0, none⟩ = some (.int .i64 b.f0) := (blk_cell BX3.out 0).trans rfl; have hx3_1 : w3.cell? ⟨gb3, 1, none⟩ = some (.int .i64 b.f1) := (blk_cell BX3.out 1).trans rfl; have hx3_2 : w3.cell? ⟨gb3, 2, none⟩ = some (.slice B2 b.f2.length d2) := (blk_cell BX3.out 2).trans rfl; have hx3_3 : w3.cell? ⟨gb3, 3, none⟩ = some (.slice B3 b.f3.length d3) := (blk_cell BX3.out 3).trans rfl; replace hx2_0 : w3.cell? ⟨gb2, 0, none⟩ = some (.int .i64 a.f0) := (blk_cell BX2.out 0).trans rfl; replace hx2_1 : w3.cell? ⟨gb2, 1, none⟩ = some (.int .i64 a.f1) := (blk_cell BX2.out 1).trans rfl; replace hx2_2 : w3.cell? ⟨gb2, 2, none⟩ = some (.slice A2 a.f2.length c2) := (blk_cell BX2.out 2).trans rfl; replace hx2_3 : w3.cell? ⟨gb2, 3, none⟩ = some (.slice A3 a.f3.length c3) := (blk_cell BX2.out 3).trans rfl))
    refine (Says.no (ints_any a.f2 b.f2 A2 B2 c2 d2 (Kd.C_below (Kd.C_below HA2.out H0.out) HB.out) (Kd.C_below (Kd.C_below HB2.out H0.out) HB.out)) R2.out).mono ?_
    rintro e w4 ⟨rfl, hb⟩
    replace HB := Aside0.mk (below_step HB.out hb)
    clear hb
    go_wp2
    go_ret
    exact ⟨⟨false, rfl, ⟨fun h => (by cases h), fun h => absurd h HNO.out⟩⟩, below_step H0.out HB.out⟩
  have R2 := Aside0.mk r2
  clear r2
  by_cases e3 : (a.f3.length : Int) = (b.f3.length : Int)
  rotate_left
  · have e3d_1 : (((a.f3.length : Int)) == ((b.f3.length : Int))) = false := beq_eq_false_iff_ne.mpr e3
    have e3d_2 : (((a.f3.length : Int)) != ((b.f3.length : Int))) = true := bne_iff_ne.mpr e3
    have HNO := Aside0.mk (show ¬ a = b from fun h => e3 (by rw [h]))
    clear e3
    go_enter Tryd.func38, Tryd.ntmps38
    go_wp2_with (first | ((with_reducible refine gate_dst (N := 2) rfl ?_); refine box_event ?hg (N := 2) ?hd (cs := #[.int .i64 a.f0, .int .i64 a.f1, .slice A2 a.f2.length c2, .slice A3 a.f3.length c3]) (t := 50) ?hr ?_; (case hd => rfl); (case hg => rfl); (case hr => first | (go_simp; done) | (go_simp; rfl)); intro gb2 hg w2 hbox hb; have BX2 := Aside0.mk hbox; have H0 := Aside0.mk hb; have HG2 := Aside0.mk hg; have HB := Aside0.mk (Below.refl w2.heap.size w2); clear hbox hb hg; have hx2_0 : w2.cell? ⟨gb2, 0, none⟩ = some (.int .i64 a.f0) := (blk_cell BX2.out 0).trans rfl; have hx2_1 : w2.cell? ⟨gb2, 1, none⟩ = some (.int .i64 a.f1) := (blk_cell BX2.out 1).trans rfl; have hx2_2 : w2.cell? ⟨gb2, 2, none⟩ = some (.slice A2 a.f2.length c2) := (blk_cell BX2.out 2).trans rfl; have hx2_3 : w2.cell? ⟨gb2, 3, none⟩ = some (.slice A3 a.f3.length c3) := (blk_cell BX2.out 3).trans rfl) | ((with_reducible refine gate_dst (N := 3) rfl ?_); refine box_event ?hg (N := 3) ?hd (cs := #[.int .i64 b.f0, .int .i64 b.f1, .slice B2 b.f2.length d2, .slice B3 b.f3.length d3]) (t := 50) ?hr ?_; (case hd => rfl); (case hg => rfl); (case hr => first | (go_simp; done) | (go_simp; rfl)); intro gb3 hg w3 hbox hb; have BX3 := Aside0.mk hbox; replace H0 := Aside0.mk (below_step H0.out hb); replace BX2 := Aside0.mk (blk_below BX2.out hb); replace HB := Aside0.mk (Below.refl w3.heap.size w3); clear hbox hb hg; have hx3_0 : w3.cell? ⟨gb3, 0, none⟩ = some (.int .i64 b.f0) := (blk_cell BX3.out 0).trans rfl; have hx3_1 : w3.cell? ⟨gb3, 1, none⟩ = some (.int .i64 b.f1) := (blk_cell BX3.out 1).trans rfl; have hx3_2 : w3.cell? ⟨gb3, 2, none⟩ = some (.slice B2 b.f2.length d2) := (blk_cell BX3.out 2).trans rfl; have hx3_3 : w3.cell? ⟨gb3, 3, none⟩ = some (.slice B3 b.f3.length d3) := (blk_cell BX3.out 3).trans rfl; replace hx2_0 : w3.cell? ⟨gb2, 0, none⟩ = some (.int .i64 a.f0) := (blk_cell BX2.out 0).trans rfl; replace hx2_1 : w3.cell? ⟨gb2, 1, none⟩ = some (.int .i64 a.f1) := (blk_cell BX2.out 1).trans rfl; replace hx2_2 : w3.cell? ⟨gb2, 2, none⟩ = some (.slice A2 a.f2.length c2) := (blk_cell BX2.out 2).trans rfl; replace hx2_3 : w3.cell? ⟨gb2, 3, none⟩ = some (.slice A3 a.f3.length c3) := (blk_cell BX2.out 3).trans rfl))
    refine (Says.yes (ints_any a.f2 b.f2 A2 B2 c2 d2 (Kd.C_below (Kd.C_below HA2.out H0.out) HB.out) (Kd.C_below (Kd.C_below HB2.out H0.out) HB.out)) R2.out).mono ?_
    rintro e w4 ⟨rfl, hb⟩
    replace HB := Aside0.mk (below_step HB.out hb)
    clear hb
    have hx2_3 := bx_cell BX2.out HB.out 3 (v := .slice A3 a.f3.length c3) rfl
    have hx3_3 := bx_cell BX3.out HB.out 3 (v := .slice B3 b.f3.length d3) rfl
    go_wp2
    go_ret
    exact ⟨⟨false, rfl, ⟨fun h => (by cases h), fun h => absurd h HNO.out⟩⟩, below_step H0.out HB.out⟩
  have e3d_1 : (((a.f3.length : Int)) == ((b.f3.length : Int))) = true := beq_iff_eq.mpr e3
  have e3d_2 : (((a.f3.length : Int)) != ((b.f3.length : Int))) = false := bne_eq_false_iff_eq.mpr e3
  have E3 := Aside0.mk e3
  clear e3
  go_enter Tryd.func38, Tryd.ntmps38
  go_wp2_with (first | ((with_reducible refine gate_dst (N := 2) rfl ?_); refine box_event ?hg (N := 2) ?hd (cs := #[.int .i64 a.f0, .int .i64 a.f1, .slice A2 a.f2.length c2, .slice A3 a.f3.length c3]) (t := 50) ?hr ?_; (case hd => rfl); (case hg => rfl); (case hr => first | (go_simp; done) | (go_simp; rfl)); intro gb2 hg w2 hbox hb; have BX2 := Aside0.mk hbox; have H0 := Aside0.mk hb; have HG2 := Aside0.mk hg; have HB := Aside0.mk (Below.refl w2.heap.size w2); clear hbox hb hg; have hx2_0 : w2.cell? ⟨gb2, 0, none⟩ = some (.int .i64 a.f0) := (blk_cell BX2.out 0).trans rfl; have hx2_1 : w2.cell? ⟨gb2, 1, none⟩ = some (.int .i64 a.f1) := (blk_cell BX2.out 1).trans rfl; have hx2_2 : w2.cell? ⟨gb2, 2, none⟩ = some (.slice A2 a.f2.length c2) := (blk_cell BX2.out 2).trans rfl; have hx2_3 : w2.cell? ⟨gb2, 3, none⟩ = some (.slice A3 a.f3.length c3) := (blk_cell BX2.out 3).trans rfl) | ((with_reducible refine gate_dst (N := 3) rfl ?_); refine box_event ?hg (N := 3) ?hd (cs := #[.int .i64 b.f0, .int .i64 b.f1, .slice B2 b.f2.length d2, .slice B3 b.f3.length d3]) (t := 50) ?hr ?_; (case hd => rfl); (case hg => rfl); (case hr => first | (go_simp; done) | (go_simp; rfl)); intro gb3 hg w3 hbox hb; have BX3 := Aside0.mk hbox; replace H0 := Aside0.mk (below_step H0.out hb); replace BX2 := Aside0.mk (blk_below BX2.out hb); replace HB := Aside0.mk (Below.refl w3.heap.size w3); clear hbox hb hg; have hx3_0 : w3.cell? ⟨gb3, 0, none⟩ = some (.int .i64 b.f0) := (blk_cell BX3.out 0).trans rfl; have hx3_1 : w3.cell? ⟨gb3, 1, none⟩ = some (.int .i64 b.f1) := (blk_cell BX3.out 1).trans rfl; have hx3_2 : w3.cell? ⟨gb3, 2, none⟩ = some (.slice B2 b.f2.length d2) := (blk_cell BX3.out 2).trans rfl; have hx3_3 : w3.cell? ⟨gb3, 3, none⟩ = some (.slice B3 b.f3.length d3) := (blk_cell BX3.out 3).trans rfl; replace hx2_0 : w3.cell? ⟨gb2, 0, none⟩ = some (.int .i64 a.f0) := (blk_cell BX2.out 0).trans rfl; replace hx2_1 : w3.cell? ⟨gb2, 1, none⟩ = some (.int .i64 a.f1) := (blk_cell BX2.out 1).trans rfl; replace hx2_2 : w3.cell? ⟨gb2, 2, none⟩ = some (.slice A2 a.f2.length c2) := (blk_cell BX2.out 2).trans rfl; replace hx2_3 : w3.cell? ⟨gb2, 3, none⟩ = some (.slice A3 a.f3.length c3) := (blk_cell BX2.out 3).trans rfl))
  refine (Says.yes (ints_any a.f2 b.f2 A2 B2 c2 d2 (Kd.C_below (Kd.C_below HA2.out H0.out) HB.out) (Kd.C_below (Kd.C_below HB2.out H0.out) HB.out)) R2.out).mono ?_
  rintro e w4 ⟨rfl, hb⟩
  replace HB := Aside0.mk (below_step HB.out hb)
  clear hb e0d_1 e0d_2 e1d_1 e1d_2
  have hx2_3 := bx_cell BX2.out HB.out 3 (v := .slice A3 a.f3.length c3) rfl
  have hx3_3 := bx_cell BX3.out HB.out 3 (v := .slice B3 b.f3.length d3) rfl
  go_wp2
  clear hx2_3 hx3_3 e3d_1 e3d_2
  go_loopw [5] (fun v5 wr => ∃ k : Nat, k ≤ a.f3.length ∧ v5 = .int .i64 k ∧ Aside0 (∀ j, j < k → a.f3.getD j z56 = b.f3.getD j z56) ∧ Aside0 (Below w3.heap.size w3 wr)) (fun v5 _ => a.f3.length - (intOf v5).toNat)
  case atStart => exact ⟨0, Nat.zero_le _, rfl, ⟨fun j hj => absurd hj (Nat.not_lt_zero _)⟩, HB⟩
  case round =>
    clear HB
    obtain ⟨k, hk, rfl, HK, HB⟩ := hrel
    have hx2_3 := bx_cell BX2.out HB.out 3 (v := .slice A3 a.f3.length c3) rfl
    have hx3_3 := bx_cell BX3.out HB.out 3 (v := .slice B3 b.f3.length d3) rfl
    have hxl := HA3.out.2.1
    by_cases hlt : k < a.f3.length
    · have t0 : decide ((k : Int) < (a.f3.length : Int)) = true := decide_eq_true (by omega)
      have p0 : 0 ≤ (k : Int) := by omega
      have q0 : (k : Int) < (a.f3.length : Int) := by omega
      have q2 : (k : Int) < (b.f3.length : Int) := by have := E3.out; omega
      obtain ⟨ax, A5, c5, A6, c6, A7, c7, ex, hu0, hu1, hu2, hu3, hu4, hl0, hi0, hl1, hi1, hl2, hi2⟩ := at_T56 (Kd.C_below (Kd.C_below HA3.out H0.out) HB.out) k p0 q0
      obtain ⟨ay, B5, d5, B6, d6, B7, d7, ey, hv0, hv1, hv2, hv3, hv4, hl3, hi3, hl4, hi4, hl5, hi5⟩ := at_T56 (Kd.C_below (Kd.C_below HB3.out H0.out) HB.out) k p0 q2
      cases ex
      cases ey
      rw [Int.toNat_natCast] at hu0 hu1 hu2 hu3 hu4 hv0 hv1 hv2 hv3 hv4
      obtain ⟨x, hx⟩ : ∃ x, x = rd_T56 a.f3 (k : Int) := ⟨_, rfl⟩
      obtain ⟨y, hy⟩ : ∃ y, y = rd_T56 b.f3 (k : Int) := ⟨_, rfl⟩
      have hgx : a.f3.getD k z56 = x := by rw [hx]; rfl
      have hgy : b.f3.getD k z56 = y := by rw [hy]; rfl
      rw [← hx] at hu0 hu1 hu2 hu3 hu4 hi0 hi1 hi2
      rw [← hy] at hv0 hv1 hv2 hv3 hv4 hi3 hi4 hi5
      have HX := Aside0.mk hgx
      have HY := Aside0.mk hgy
      have HI0 := Aside0.mk hi0
      have HI1 := Aside0.mk hi1
      have HI2 := Aside0.mk hi2
      have HI3 := Aside0.mk hi3
      have HI4 := Aside0.mk hi4
      have HI5 := Aside0.mk hi5
      have p1 := eq_true p0
      have q1 := eq_true q0
      have q3 := eq_true q2
      have HNE := Aside0.mk (show ¬ x = y → ¬ a = b from fun h e => h (by rw [← hgx, ← hgy, e]))
      clear hx hy hgx hgy hl0 hl1 hl2 hl3 hl4 hl5 hi0 hi1 hi2 hi3 hi4 hi5 p0 q0 q2
      by_cases d : x = y
      rotate_left
      · have D := Aside0.mk d
        have HNO := Aside0.mk (HNE.out d)
        clear d
        go_upto_region 6 with (fail)
        have f0 := far_cell hx2_3
        have f1 := far_cell hx3_3
        have f2 := far_cell hu0
        have f3 := far_cell hu1
        have f4 := far_cell hu2
        have f5 := far_cell hu3
        have f6 := far_cell hu4
        have f7 := far_cell hv0
        have f8 := far_cell hv1
        have f9 := far_cell hv2
        have f10 := far_cell hv3
        have f11 := far_cell hv4
        clear hx2_3 hx3_3 hu0 hu1 hu2 hu3 hu4 hv0 hv1 hv2 hv3 hv4
        refine region_far (by kernel_rfl) (by kernel_rfl) ?_
        repeat (go_big_quiet_step ((go_at_call 58; refine Calls.far (Says.no (sameBlock_any x y A5 A6 A7 B5 B6 B7 c5 c6 c7 d5 d6 d7 (Kd.C_below HI0.out (Far.h _)) (Kd.C_below HI1.out (Far.h _)) (Kd.C_below HI2.out (Far.h _)) (Kd.C_below HI3.out (Far.h _)) (Kd.C_below HI4.out (Far.h _)) (Kd.C_below HI5.out (Far.h _))) D.out))))
        refine wpQuiet_nil ?_
        rintro _ ⟨⟨w9, hb⟩, rfl⟩
        replace HB := Aside0.mk (below_step HB.out hb)
        clear hb f0 f1 f2 f3 f4 f5 f6 f7 f8 f9 f10 f11
        go_wp2
        go_ret
        exact ⟨⟨false, rfl, ⟨fun h => (by cases h), fun h => absurd h HNO.out⟩⟩, below_step H0.out HB.out⟩
      · have D := Aside0.mk d
        clear d
        go_upto_region 6 with (fail)
        have f0 := far_cell hx2_3
        have f1 := far_cell hx3_3
        have f2 := far_cell hu0
        have f3 := far_cell hu1
        have f4 := far_cell hu2
        have f5 := far_cell hu3
        have f6 := far_cell hu4
        have f7 := far_cell hv0
        have f8 := far_cell hv1
        have f9 := far_cell hv2
        have f10 := far_cell hv3
        have f11 := far_cell hv4
        clear hx2_3 hx3_3 hu0 hu1 hu2 hu3 hu4 hv0 hv1 hv2 hv3 hv4
        refine region_far (by kernel_rfl) (by kernel_rfl) ?_
        repeat (go_big_quiet_step ((go_at_call 58; refine Calls.far (Says.yes (sameBlock_any x y A5 A6 A7 B5 B6 B7 c5 c6 c7 d5 d6 d7 (Kd.C_below HI0.out (Far.h _)) (Kd.C_below HI1.out (Far.h _)) (Kd.C_below HI2.out (Far.h _)) (Kd.C_below HI3.out (Far.h _)) (Kd.C_below HI4.out (Far.h _)) (Kd.C_below HI5.out (Far.h _))) D.out))))
        refine wpQuiet_nil ?_
        rintro _ ⟨⟨w9, hb⟩, rfl⟩
        replace HB := Aside0.mk (below_step HB.out hb)
        clear hb f0 f1 f2 f3 f4 f5 f6 f7 f8 f9 f10 f11
        go_wp2
        go_roundw
        case rel =>
          refine ⟨k + 1, hlt, by go_num, ⟨fun j hj => ?_⟩, HB⟩
          by_cases e : j = k
          · subst e
            rw [HX.out, HY.out]
            exact D.out
          · exact HK.out j (by omega)
        case measure => simp [intOf]; omega
    · have t0 : decide ((k : Int) < (a.f3.length : Int)) = false := decide_eq_false (by omega)
      obtain rfl : k = a.f3.length := by omega
      have HPS := Aside0.mk (ext_at (z := z56) (by have := E3.out; omega) HK.out)
      clear hlt hk hxl HK hx3_3
      go_wp2
      go_ret
      exact ⟨⟨true, rfl, ⟨fun _ => eqFunc E0.out E1.out R2.out HPS.out, fun _ => rfl⟩⟩, below_step H0.out HB.out⟩
set_option maxHeartbeats 16000000 in
set_option maxRecDepth 100000 in
theorem same_any (a b : List Fn) (A0 B0 : Option Addr) (c0 d0 : Nat) (ha0 : Kd.C k50 w A0 a.length a) (hb0 : Kd.C k50 w B0 b.length b) :
    Calls Tryd.prog 17 #[.agg #[.slice A0 a.length c0], .agg #[.slice B0 b.length d0]] w (Says w (a = b)) := by
  have HA0 := Aside0.mk ha0
  have HB0 := Aside0.mk hb0
  clear ha0 hb0
  by_cases e0 : (a.length : Int) = (b.length : Int)
  rotate_left
  · have e0d_1 : (((a.length : Int)) == ((b.length : Int))) = false := beq_eq_false_iff_ne.mpr e0
    have e0d_2 : (((a.length : Int)) != ((b.length : Int))) = true := bne_iff_ne.mpr e0
    have HNO := Aside0.mk (show ¬ a = b from fun h => e0 (by rw [h]))
    clear e0
    go_enter Tryd.func17, Tryd.ntmps17
    go_wp2_with (first | ((with_reducible refine gate_dst (N := 2) rfl ?_); refine box_event ?hg (N := 2) ?hd (cs := #[.slice A0 a.length c0]) (t := 24) ?hr ?_; (case hd => rfl); (case hg => rfl); (case hr => first | (go_simp; done) | (go_simp; rfl)); intro gb2 hg w2 hbox hb; have BX2 := Aside0.mk hbox; have H0 := Aside0.mk hb; have HG2 := Aside0.mk hg; have HB := Aside0.mk (Below.refl w2.heap.size w2); clear hbox hb hg; have hx2_0 : w2.cell? ⟨gb2, 0, none⟩ = some (.slice A0 a.length c0) := (blk_cell BX2.out 0).trans rfl) | ((with_reducible refine gate_dst (N := 3) rfl ?_); refine box_event ?hg (N := 3) ?hd (cs := #[.slice B0 b.length d0]) (t := 24) ?hr ?_; (case hd => rfl); (case hg => rfl); (case hr => first | (go_simp; done) | (go_simp; rfl)); intro gb3 hg w3 hbox hb; have BX3 := Aside0.mk hbox; replace H0 := Aside0.mk (below_step H0.out hb); replace BX2 := Aside0.mk (blk_below BX2.out hb); replace HB := Aside0.mk (Below.refl w3.heap.size w3); clear hbox hb hg; have hx3_0 : w3.cell? ⟨gb3, 0, none⟩ = some (.slice B0 b.length d0) := (blk_cell BX3.out 0).trans rfl; replace hx2_0 : w3.cell? ⟨gb2, 0, none⟩ = some (.slice A0 a.length c0) := (blk_cell BX2.out 0).trans rfl))
    go_ret
    exact ⟨⟨false, rfl, ⟨fun h => (by cases h), fun h => absurd h HNO.out⟩⟩, below_step H0.out HB.out⟩
  have e0d_1 : (((a.length : Int)) == ((b.length : Int))) = true := beq_iff_eq.mpr e0
  have e0d_2 : (((a.length : Int)) != ((b.length : Int))) = false := bne_eq_false_iff_eq.mpr e0
  have E0 := Aside0.mk e0
  clear e0
  go_enter Tryd.func17, Tryd.ntmps17
  go_wp2_with (first | ((with_reducible refine gate_dst (N := 2) rfl ?_); refine box_event ?hg (N := 2) ?hd (cs := #[.slice A0 a.length c0]) (t := 24) ?hr ?_; (case hd => rfl); (case hg => rfl); (case hr => first | (go_simp; done) | (go_simp; rfl)); intro gb2 hg w2 hbox hb; have BX2 := Aside0.mk hbox; have H0 := Aside0.mk hb; have HG2 := Aside0.mk hg; have HB := Aside0.mk (Below.refl w2.heap.size w2); clear hbox hb hg; have hx2_0 : w2.cell? ⟨gb2, 0, none⟩ = some (.slice A0 a.length c0) := (blk_cell BX2.out 0).trans rfl) | ((with_reducible refine gate_dst (N := 3) rfl ?_); refine box_event ?hg (N := 3) ?hd (cs := #[.slice B0 b.length d0]) (t := 24) ?hr ?_; (case hd => rfl); (case hg => rfl); (case hr => first | (go_simp; done) | (go_simp; rfl)); intro gb3 hg w3 hbox hb; have BX3 := Aside0.mk hbox; replace H0 := Aside0.mk (below_step H0.out hb); replace BX2 := Aside0.mk (blk_below BX2.out hb); replace HB := Aside0.mk (Below.refl w3.heap.size w3); clear hbox hb hg; have hx3_0 : w3.cell? ⟨gb3, 0, none⟩ = some (.slice B0 b.length d0) := (blk_cell BX3.out 0).trans rfl; replace hx2_0 : w3.cell? ⟨gb2, 0, none⟩ = some (.slice A0 a.length c0) := (blk_cell BX2.out 0).trans rfl))
  clear hx2_0 hx3_0 e0d_1 e0d_2
  go_loopw [5] (fun v5 wr => ∃ k : Nat, k ≤ a.length ∧ v5 = .int .i64 k ∧ Aside0 (∀ j, j < k → a.getD j z50 = b.getD j z50) ∧ Aside0 (Below w3.heap.size w3 wr)) (fun v5 _ => a.length - (intOf v5).toNat)
  case atStart => exact ⟨0, Nat.zero_le _, rfl, ⟨fun j hj => absurd hj (Nat.not_lt_zero _)⟩, HB⟩
  case round =>
    clear HB
    obtain ⟨k, hk, rfl, HK, HB⟩ := hrel
    have hx2_0 := bx_cell BX2.out HB.out 0 (v := .slice A0 a.length c0) rfl
    have hx3_0 := bx_cell BX3.out HB.out 0 (v := .slice B0 b.length d0) rfl
    have hxl := HA0.out.2.1
    by_cases hlt : k < a.length
    · have t0 : decide ((k : Int) < (a.length : Int)) = true := decide_eq_true (by omega)
      have p0 : 0 ≤ (k : Int) := by omega
      have q0 : (k : Int) < (a.length : Int) := by omega
      have q2 : (k : Int) < (b.length : Int) := by have := E0.out; omega
      obtain ⟨ax, A5, c5, A6, c6, ex, hu0, hu1, hu2, hu3, hl0, hi0, hl1, hi1⟩ := at_T50 (Kd.C_below (Kd.C_below HA0.out H0.out) HB.out) k p0 q0
      obtain ⟨ay, B5, d5, B6, d6, ey, hv0, hv1, hv2, hv3, hl2, hi2, hl3, hi3⟩ := at_T50 (Kd.C_below (Kd.C_below HB0.out H0.out) HB.out) k p0 q2
      cases ex
      cases ey
      rw [Int.toNat_natCast] at hu0 hu1 hu2 hu3 hv0 hv1 hv2 hv3
      obtain ⟨x, hx⟩ : ∃ x, x = rd_T50 a (k : Int) := ⟨_, rfl⟩
      obtain ⟨y, hy⟩ : ∃ y, y = rd_T50 b (k : Int) := ⟨_, rfl⟩
      have hgx : a.getD k z50 = x := by rw [hx]; rfl
      have hgy : b.getD k z50 = y := by rw [hy]; rfl
      rw [← hx] at hu0 hu1 hu2 hu3 hi0 hi1
      rw [← hy] at hv0 hv1 hv2 hv3 hi2 hi3
      have HX := Aside0.mk hgx
      have HY := Aside0.mk hgy
      have HI0 := Aside0.mk hi0
      have HI1 := Aside0.mk hi1
      have HI2 := Aside0.mk hi2
      have HI3 := Aside0.mk hi3
      have p1 := eq_true p0
      have q1 := eq_true q0
      have q3 := eq_true q2
      have HNE := Aside0.mk (show ¬ x = y → ¬ a = b from fun h e => h (by rw [← hgx, ← hgy, e]))
      clear hx hy hgx hgy hl0 hl1 hl2 hl3 hi0 hi1 hi2 hi3 p0 q0 q2
      by_cases d : x = y
      rotate_left
      · have D := Aside0.mk d
        have HNO := Aside0.mk (HNE.out d)
        clear d
        go_upto_region 6 with (fail)
        have f0 := far_cell hx2_0
        have f1 := far_cell hx3_0
        have f2 := far_cell hu0
        have f3 := far_cell hu1
        have f4 := far_cell hu2
        have f5 := far_cell hu3
        have f6 := far_cell hv0
        have f7 := far_cell hv1
        have f8 := far_cell hv2
        have f9 := far_cell hv3
        clear hx2_0 hx3_0 hu0 hu1 hu2 hu3 hv0 hv1 hv2 hv3
        refine region_far (by kernel_rfl) (by kernel_rfl) ?_
        repeat (go_big_quiet_step ((go_at_call 38; refine Calls.far (Says.no (sameFunc_any x y A5 A6 B5 B6 c5 c6 d5 d6 (Kd.C_below HI0.out (Far.h _)) (Kd.C_below HI1.out (Far.h _)) (Kd.C_below HI2.out (Far.h _)) (Kd.C_below HI3.out (Far.h _))) D.out))))
        refine wpQuiet_nil ?_
        rintro _ ⟨⟨w9, hb⟩, rfl⟩
        replace HB := Aside0.mk (below_step HB.out hb)
        clear hb f0 f1 f2 f3 f4 f5 f6 f7 f8 f9
        go_wp2
        go_ret
        exact ⟨⟨false, rfl, ⟨fun h => (by cases h), fun h => absurd h HNO.out⟩⟩, below_step H0.out HB.out⟩
      · have D := Aside0.mk d
        clear d
        go_upto_region 6 with (fail)
        have f0 := far_cell hx2_0
        have f1 := far_cell hx3_0
        have f2 := far_cell hu0
        have f3 := far_cell hu1
        have f4 := far_cell hu2
        have f5 := far_cell hu3
        have f6 := far_cell hv0
        have f7 := far_cell hv1
        have f8 := far_cell hv2
        have f9 := far_cell hv3
        clear hx2_0 hx3_0 hu0 hu1 hu2 hu3 hv0 hv1 hv2 hv3
        refine region_far (by kernel_rfl) (by kernel_rfl) ?_
        repeat (go_big_quiet_step ((go_at_call 38; refine Calls.far (Says.yes (sameFunc_any x y A5 A6 B5 B6 c5 c6 d5 d6 (Kd.C_below HI0.out (Far.h _)) (Kd.C_below HI1.out (Far.h _)) (Kd.C_below HI2.out (Far.h _)) (Kd.C_below HI3.out (Far.h _))) D.out))))
        refine wpQuiet_nil ?_
        rintro _ ⟨⟨w9, hb⟩, rfl⟩
        replace HB := Aside0.mk (below_step HB.out hb)
        clear hb f0 f1 f2 f3 f4 f5 f6 f7 f8 f9
        go_wp2
        go_roundw
        case rel =>
          refine ⟨k + 1, hlt, by go_num, ⟨fun j hj => ?_⟩, HB⟩
          by_cases e : j = k
          · subst e
            rw [HX.out, HY.out]
            exact D.out
          · exact HK.out j (by omega)
        case measure => simp [intOf]; omega
    · have t0 : decide ((k : Int) < (a.length : Int)) = false := decide_eq_false (by omega)
      obtain rfl : k = a.length := by omega
      have HPS := Aside0.mk (ext_at (z := z50) (by have := E0.out; omega) HK.out)
      clear hlt hk hxl HK hx3_0
      go_wp2
      go_ret
      exact ⟨⟨true, rfl, ⟨fun _ => HPS.out, fun _ => rfl⟩⟩, below_step H0.out HB.out⟩
end Go.Proofs.YtckebppacealeaaDoor.Lk
