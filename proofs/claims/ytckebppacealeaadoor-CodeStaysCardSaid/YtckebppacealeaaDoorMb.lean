/- sameBlock, SameFunc and Same of fettleref02 tell whether two blocks, functions, modules are the same. Conditions: none. -/
import Derived.Test.YtckebppacealeaaDoorMa
namespace Go.Proofs.YtckebppacealeaaDoor.Lk
open Go.RowKit Go.Proofs.YtckebppacealeaaDoorW.PrintWords Go.Proofs.YtckebppacealeaaDoorW.PrintLast Go.Proofs.YtckebppacealeaaDoorW.PrintMore Go.Proofs.YtckebppacealeaaDoorW.PrintWords.Kd Go.Proofs.YtckebppacealeaaDoor.PCodeUnlike Go.Proofs.YtckebppacealeaaDoor.Lp
attribute [local go_sem] max2_int min2_int max_two min_two max_three min_three max_four min_four
set_option linter.unusedVariables false
set_option linter.unusedSimpArgs false
variable {w w1 : World}
theorem Says.yes {g : FuncId} {args : Array Value} {W : World} {P : Prop} (h : Calls Tryd.prog g args W (Says W P)) (hp : P) : Calls Tryd.prog g args W fun e w' => e = .returned (.bool true) ∧ Below W.heap.size W w' :=
  h.mono fun _ _ ⟨⟨r, he, hr⟩, hb⟩ => ⟨by rw [he, hr.mpr hp], hb⟩
theorem Says.no {g : FuncId} {args : Array Value} {W : World} {P : Prop} (h : Calls Tryd.prog g args W (Says W P)) (hp : ¬ P) : Calls Tryd.prog g args W fun e w' => e = .returned (.bool false) ∧ Below W.heap.size W w' :=
  h.mono fun _ _ ⟨⟨r, he, hr⟩, hb⟩ => ⟨by rw [he]; cases r; rfl; exact absurd (hr.mp rfl) hp, hb⟩
theorem eqPhi {x y : Ph} (h0 : x.f0 = y.f0) (h1 : x.f1 = y.f1) : x = y := by cases x; cases y; simp_all
theorem eqInstr {x y : In} (h0 : x.f0 = y.f0) (h1 : x.f1 = y.f1) (h2 : x.f2 = y.f2) (h3 : x.f3 = y.f3) (h4 : x.f4 = y.f4) : x = y := by cases x; cases y; simp_all
theorem eqBlock {x y : Bk} (h0 : x.f0 = y.f0) (h1 : x.f1 = y.f1) (h2 : x.f2.f0 = y.f2.f0) (h3 : x.f2.f1 = y.f2.f1) (h4 : x.f2.f2 = y.f2.f2) : x = y := by
  obtain ⟨_, _, ⟨_, _, _⟩⟩ := x
  obtain ⟨_, _, ⟨_, _, _⟩⟩ := y
  simp_all
theorem eqFunc {x y : Fn} (h0 : x.f0 = y.f0) (h1 : x.f1 = y.f1) (h2 : x.f2 = y.f2) (h3 : x.f3 = y.f3) : x = y := by cases x; cases y; simp_all
set_option maxHeartbeats 16000000 in
set_option maxRecDepth 100000 in
theorem sameBlock_any (a b : Bk) (A0 A1 A4 B0 B1 B4 : Option Addr) (c0 c1 c4 d0 d1 d4 : Nat) (ha0 : Kd.C k60 w A0 a.f0.length a.f0) (ha1 : Kd.C k58 w A1 a.f1.length a.f1) (ha4 : Kd.C (Kd.int .i64) w A4 a.f2.f2.length a.f2.f2)
    (hb0 : Kd.C k60 w B0 b.f0.length b.f0) (hb1 : Kd.C k58 w B1 b.f1.length b.f1) (hb4 : Kd.C (Kd.int .i64) w B4 b.f2.f2.length b.f2.f2) :
    Calls Tryd.prog 58 #[.agg #[.slice A0 a.f0.length c0, .slice A1 a.f1.length c1, .int .i64 a.f2.f0, .int .i64 a.f2.f1, .slice A4 a.f2.f2.length c4], .agg #[.slice B0 b.f0.length d0, .slice B1 b.f1.length d1, .int .i64 b.f2.f0, .int .i64 b.f2.f1, .slice B4 b.f2.f2.length d4]] w (Says w (a = b)) := by
  have HA0 := Aside0.mk ha0
  have HA1 := Aside0.mk ha1
  have HA4 := Aside0.mk ha4
  have HB0 := Aside0.mk hb0
  have HB1 := Aside0.mk hb1
  have HB4 := Aside0.mk hb4
  clear ha0 ha1 ha4 hb0 hb1 hb4
  by_cases e0 : (a.f0.length : Int) = (b.f0.length : Int)
  rotate_left
  · have e0d_1 : (((a.f0.length : Int)) == ((b.f0.length : Int))) = false := beq_eq_false_iff_ne.mpr e0
    have e0d_2 : (((a.f0.length : Int)) != ((b.f0.length : Int))) = true := bne_iff_ne.mpr e0
    have HNO := Aside0.mk (show ¬ a = b from fun h => e0 (by rw [h]))
    clear e0
    go_enter Tryd.func58, Tryd.ntmps58
    go_wp2_with (first | ((with_reducible refine gate_dst (N := 2) rfl ?_); refine box_event ?hg (N := 2) ?hd (cs := #[.slice A0 a.f0.length c0, .slice A1 a.f1.length c1, .int .i64 a.f2.f0, .int .i64 a.f2.f1, .slice A4 a.f2.f2.length c4]) (t := 56) ?hr ?_; (case hd => rfl); (case hg => rfl); (case hr => first | (go_simp; done) | (go_simp; rfl)); intro gb2 hg w2 hbox hb; have BX2 := Aside0.mk hbox; have H0 := Aside0.mk hb; have HG2 := Aside0.mk hg; have HB := Aside0.mk (Below.refl w2.heap.size w2); clear hbox hb hg; have hx2_0 : w2.cell? ⟨gb2, 0, none⟩ = some (.slice A0 a.f0.length c0) := (blk_cell BX2.out 0).trans rfl; have hx2_1 : w2.cell? ⟨gb2, 1, none⟩ = some (.slice A1 a.f1.length c1) := (blk_cell BX2.out 1).trans rfl; have hx2_2 : w2.cell? ⟨gb2, 2, none⟩ = some (.int .i64 a.f2.f0) := (blk_cell BX2.out 2).trans rfl; have hx2_3 : w2.cell? ⟨gb2, 3, none⟩ = some (.int .i64 a.f2.f1) := (blk_cell BX2.out 3).trans rfl; have hx2_4 : w2.cell? ⟨gb2, 4, none⟩ = some (.slice A4 a.f2.f2.length c4) := (blk_cell BX2.out 4).trans rfl) | ((with_reducible refine gate_dst (N := 3) rfl ?_); refine box_event ?hg (N := 3) ?hd (cs := #[.slice B0 b.f0.length d0, .slice B1 b.f1.length d1, .int .i64 b.f2.f0, .int .i64 b.f2.f1, .slice B4 b.f2.f2.length d4]) (t := 56) ?hr ?_; (case hd => rfl); (case hg => rfl); (case hr => first | (go_simp; done) | (go_simp; rfl)); intro gb3 hg w3 hbox hb; have BX3 := Aside0.mk hbox; replace H0 := Aside0.mk (below_step H0.out hb); replace BX2 := Aside0.mk (blk_below BX2.out hb); replace HB := Aside0.mk (Below.refl w3.heap.size w3); clear hbox hb hg; have hx3_0 : w3.cell? ⟨gb3, 0, none⟩ = some (.slice B0 b.f0.length d0) := (blk_cell BX3.out 0).trans rfl; have hx3_1 : w3.cell? ⟨gb3, 1, none⟩ = some (.slice B1 b.f1.length d1) := (blk_cell BX3.out 1).trans rfl; have hx3_2 : w3.cell? ⟨gb3, 2, none⟩ = some (.int .i64 b.f2.f0) := (blk_cell BX3.out 2).trans rfl; have hx3_3 : w3.cell? ⟨gb3, 3, none⟩ = some (.int .i64 b.f2.f1) := (blk_cell BX3.out 3).trans rfl; have hx3_4 : w3.cell? ⟨gb3, 4, none⟩ = some (.slice B4 b.f2.f2.length d4) := (blk_cell BX3.out 4).trans rfl; replace hx2_0 : w3.cell? ⟨gb2, 0, none⟩ = some (.slice A0 a.f0.length c0) := (blk_cell BX2.out 0).trans rfl; replace hx2_1 : w3.cell? ⟨gb2, 1, none⟩ = some (.slice A1 a.f1.length c1) := (blk_cell BX2.out 1).trans rfl; replace hx2_2 : w3.cell? ⟨gb2, 2, none⟩ = some (.int .i64 a.f2.f0) := (blk_cell BX2.out 2).trans rfl; replace hx2_3 : w3.cell? ⟨gb2, 3, none⟩ = some (.int .i64 a.f2.f1) := (blk_cell BX2.out 3).trans rfl; replace hx2_4 : w3.cell? ⟨gb2, 4, none⟩ = some (.slice A4 a.f2.f2.length c4) := (blk_cell BX2.out 4).trans rfl))
    go_ret
    exact ⟨⟨false, rfl, ⟨fun h => (by cases h), fun h => absurd h HNO.out⟩⟩, below_step H0.out HB.out⟩
  have e0d_1 : (((a.f0.length : Int)) == ((b.f0.length : Int))) = true := beq_iff_eq.mpr e0
  have e0d_2 : (((a.f0.length : Int)) != ((b.f0.length : Int))) = false := bne_eq_false_iff_eq.mpr e0
  have E0 := Aside0.mk e0
  by_cases e1 : (a.f1.length : Int) = (b.f1.length : Int)
  rotate_left
  · have e1d_1 : (((a.f1.length : Int)) == ((b.f1.length : Int))) = false := beq_eq_false_iff_ne.mpr e1
    have e1d_2 : (((a.f1.length : Int)) != ((b.f1.length : Int))) = true := bne_iff_ne.mpr e1
    have HNO := Aside0.mk (show ¬ a = b from fun h => e1 (by rw [h]))
    clear e1
    go_enter Tryd.func58, Tryd.ntmps58
    go_wp2_with (first | ((with_reducible refine gate_dst (N := 2) rfl ?_); refine box_event ?hg (N := 2) ?hd (cs := #[.slice A0 a.f0.length c0, .slice A1 a.f1.length c1, .int .i64 a.f2.f0, .int .i64 a.f2.f1, .slice A4 a.f2.f2.length c4]) (t := 56) ?hr ?_; (case hd => rfl); (case hg => rfl); (case hr => first | (go_simp; done) | (go_simp; rfl)); intro gb2 hg w2 hbox hb; have BX2 := Aside0.mk hbox; have H0 := Aside0.mk hb; have HG2 := Aside0.mk hg; have HB := Aside0.mk (Below.refl w2.heap.size w2); clear hbox hb hg; have hx2_0 : w2.cell? ⟨gb2, 0, none⟩ = some (.slice A0 a.f0.length c0) := (blk_cell BX2.out 0).trans rfl; have hx2_1 : w2.cell? ⟨gb2, 1, none⟩ = some (.slice A1 a.f1.length c1) := (blk_cell BX2.out 1).trans rfl; have hx2_2 : w2.cell? ⟨gb2, 2, none⟩ = some (.int .i64 a.f2.f0) := (blk_cell BX2.out 2).trans rfl; have hx2_3 : w2.cell? ⟨gb2, 3, none⟩ = some (.int .i64 a.f2.f1) := (blk_cell BX2.out 3).trans rfl; have hx2_4 : w2.cell? ⟨gb2, 4, none⟩ = some (.slice A4 a.f2.f2.length c4) := (blk_cell BX2.out 4).trans rfl) | ((with_reducible refine gate_dst (N := 3) rfl ?_); refine box_event ?hg (N := 3) ?hd (cs := #[.slice B0 b.f0.length d0, .slice B1 b.f1.length d1, .int .i64 b.f2.f0, .int .i64 b.f2.f1, .slice B4 b.f2.f2.length d4]) (t := 56) ?hr ?_; (case hd => rfl); (case hg => rfl); (case hr => first | (go_simp; done) | (go_simp; rfl)); intro gb3 hg w3 hbox hb; have BX3 := Aside0.mk hbox; replace H0 := Aside0.mk (below_step H0.out hb); replace BX2 := Aside0.mk (blk_below BX2.out hb); replace HB := Aside0.mk (Below.refl w3.heap.size w3); clear hbox hb hg; have hx3_0 : w3.cell? ⟨gb3, 0, none⟩ = some (.slice B0 b.f0.length d0) := (blk_cell BX3.out 0).trans rfl; have hx3_1 : w3.cell? ⟨gb3, 1, none⟩ = some (.slice B1 b.f1.length d1) := (blk_cell BX3.out 1).trans rfl; have hx3_2 : w3.cell? ⟨gb3, 2, none⟩ = some (.int .i64 b.f2.f0) := (blk_cell BX3.out 2).trans rfl; have hx3_3 : w3.cell? ⟨gb3, 3, none⟩ = some (.int .i64 b.f2.f1) := (blk_cell BX3.out 3).trans rfl; have hx3_4 : w3.cell? ⟨gb3, 4, none⟩ = some (.slice B4 b.f2.f2.length d4) := (blk_cell BX3.out 4).trans rfl; replace hx2_0 : w3.cell? ⟨gb2, 0, none⟩ = some (.slice A0 a.f0.length c0) := (blk_cell BX2.out 0).trans rfl; replace hx2_1 : w3.cell? ⟨gb2, 1, none⟩ = some (.slice A1 a.f1.length c1) := (blk_cell BX2.out 1).trans rfl; replace hx2_2 : w3.cell? ⟨gb2, 2, none⟩ = some (.int .i64 a.f2.f0) := (blk_cell BX2.out 2).trans rfl; replace hx2_3 : w3.cell? ⟨gb2, 3, none⟩ = some (.int .i64 a.f2.f1) := (blk_cell BX2.out 3).trans rfl; replace hx2_4 : w3.cell? ⟨gb2, 4, none⟩ = some (.slice A4 a.f2.f2.length c4) := (blk_cell BX2.out 4).trans rfl))
    go_ret
    exact ⟨⟨false, rfl, ⟨fun h => (by cases h), fun h => absurd h HNO.out⟩⟩, below_step H0.out HB.out⟩
  have e1d_1 : (((a.f1.length : Int)) == ((b.f1.length : Int))) = true := beq_iff_eq.mpr e1
  have e1d_2 : (((a.f1.length : Int)) != ((b.f1.length : Int))) = false := bne_eq_false_iff_eq.mpr e1
  have E1 := Aside0.mk e1
  by_cases e2 : a.f2.f0 = b.f2.f0
  rotate_left
  · have e2d_1 : ((a.f2.f0) == (b.f2.f0)) = false := beq_eq_false_iff_ne.mpr e2
    have e2d_2 : ((a.f2.f0) != (b.f2.f0)) = true := bne_iff_ne.mpr e2
    have HNO := Aside0.mk (show ¬ a = b from fun h => e2 (by rw [h]))
    clear e2
    go_enter Tryd.func58, Tryd.ntmps58
    go_wp2_with (first | ((with_reducible refine gate_dst (N := 2) rfl ?_); refine box_event ?hg (N := 2) ?hd (cs := #[.slice A0 a.f0.length c0, .slice A1 a.f1.length c1, .int .i64 a.f2.f0, .int .i64 a.f2.f1, .slice A4 a.f2.f2.length c4]) (t := 56) ?hr ?_; (case hd => rfl); (case hg => rfl); (case hr => first | (go_simp; done) | (go_simp; rfl)); intro gb2 hg w2 hbox hb; have BX2 := Aside0.mk hbox; have H0 := Aside0.mk hb; have HG2 := Aside0.mk hg; have HB := Aside0.mk (Below.refl w2.heap.size w2); clear hbox hb hg; have hx2_0 : w2.cell? ⟨gb2, 0, none⟩ = some (.slice A0 a.f0.length c0) := (blk_cell BX2.out 0).trans rfl; have hx2_1 : w2.cell? ⟨gb2, 1, none⟩ = some (.slice A1 a.f1.length c1) := (blk_cell BX2.out 1).trans rfl; have hx2_2 : w2.cell? ⟨gb2, 2, none⟩ = some (.int .i64 a.f2.f0) := (blk_cell BX2.out 2).trans rfl; have hx2_3 : w2.cell? ⟨gb2, 3, none⟩ = some (.int .i64 a.f2.f1) := (blk_cell BX2.out 3).trans rfl; have hx2_4 : w2.cell? ⟨gb2, 4, none⟩ = some (.slice A4 a.f2.f2.length c4) := (blk_cell BX2.out 4).trans rfl) | ((with_reducible refine gate_dst (N := 3) rfl ?_); refine box_event ?hg (N := 3) ?hd (cs := #[.slice B0 b.f0.length d0, .slice B1 b.f1.length d1, .int .i64 b.f2.f0, .int .i64 b.f2.f1, .slice B4 b.f2.f2.length d4]) (t := 56) ?hr ?_; (case hd => rfl); (case hg => rfl); (case hr => first | (go_simp; done) | (go_simp; rfl)); intro gb3 hg w3 hbox hb; have BX3 := Aside0.mk hbox; replace H0 := Aside0.mk (below_step H0.out hb); replace BX2 := Aside0.mk (blk_below BX2.out hb); replace HB := Aside0.mk (Below.refl w3.heap.size w3); clear hbox hb hg; have hx3_0 : w3.cell? ⟨gb3, 0, none⟩ = some (.slice B0 b.f0.length d0) := (blk_cell BX3.out 0).trans rfl; have hx3_1 : w3.cell? ⟨gb3, 1, none⟩ = some (.slice B1 b.f1.length d1) := (blk_cell BX3.out 1).trans rfl; have hx3_2 : w3.cell? ⟨gb3, 2, none⟩ = some (.int .i64 b.f2.f0) := (blk_cell BX3.out 2).trans rfl; have hx3_3 : w3.cell? ⟨gb3, 3, none⟩ = some (.int .i64 b.f2.f1) := (blk_cell BX3.out 3).trans rfl; have hx3_4 : w3.cell? ⟨gb3, 4, none⟩ = some (.slice B4 b.f2.f2.length d4) := (blk_cell BX3.out 4).trans rfl; replace hx2_0 : w3.cell? ⟨gb2, 0, none⟩ = some (.slice A0 a.f0.length c0) := (blk_cell BX2.out 0).trans rfl; replace hx2_1 : w3.cell? ⟨gb2, 1, none⟩ = some (.slice A1 a.f1.length c1) := (blk_cell BX2.out 1).trans rfl; replace hx2_2 : w3.cell? ⟨gb2, 2, none⟩ = some (.int .i64 a.f2.f0) := (blk_cell BX2.out 2).trans rfl; replace hx2_3 : w3.cell? ⟨gb2, 3, none⟩ = some (.int .i64 a.f2.f1) := (blk_cell BX2.out 3).trans rfl; replace hx2_4 : w3.cell? ⟨gb2, 4, none⟩ = some (.slice A4 a.f2.f2.length c4) := (blk_cell BX2.out 4).trans rfl))
    go_ret
    exact ⟨⟨false, rfl, ⟨fun h => (by cases h), fun h => absurd h HNO.out⟩⟩, below_step H0.out HB.out⟩
  have e2d_1 : ((a.f2.f0) == (b.f2.f0)) = true := beq_iff_eq.mpr e2
  have e2d_2 : ((a.f2.f0) != (b.f2.f0)) = false := bne_eq_false_iff_eq.mpr e2
  have E2 := Aside0.mk e2
  by_cases e3 : a.f2.f1 = b.f2.f1
  rotate_left
  · have e3d_1 : ((a.f2.f1) == (b.f2.f1)) = false := beq_eq_false_iff_ne.mpr e3
    have e3d_2 : ((a.f2.f1) != (b.f2.f1)) = true := bne_iff_ne.mpr e3
    have HNO := Aside0.mk (show ¬ a = b from fun h => e3 (by rw [h]))
    clear e3
    go_enter Tryd.func58, Tryd.ntmps58
    go_wp2_with (first | ((with_reducible refine gate_dst (N := 2) rfl ?_); refine box_event ?hg (N := 2) ?hd (cs := #[.slice A0 a.f0.length c0, .slice A1 a.f1.length c1, .int .i64 a.f2.f0, .int .i64 a.f2.f1, .slice A4 a.f2.f2.length c4]) (t := 56) ?hr ?_; (case hd => rfl); (case hg => rfl); (case hr => first | (go_simp; done) | (go_simp; rfl)); intro gb2 hg w2 hbox hb; have BX2 := Aside0.mk hbox; have H0 := Aside0.mk hb; have HG2 := Aside0.mk hg; have HB := Aside0.mk (Below.refl w2.heap.size w2); clear hbox hb hg; have hx2_0 : w2.cell? ⟨gb2, 0, none⟩ = some (.slice A0 a.f0.length c0) := (blk_cell BX2.out 0).trans rfl; have hx2_1 : w2.cell? ⟨gb2, 1, none⟩ = some (.slice A1 a.f1.length c1) := (blk_cell BX2.out 1).trans rfl; have hx2_2 : w2.cell? ⟨gb2, 2, none⟩ = some (.int .i64 a.f2.f0) := (blk_cell BX2.out 2).trans rfl; have hx2_3 : w2.cell? ⟨gb2, 3, none⟩ = some (.int .i64 a.f2.f1) := (blk_cell BX2.out 3).trans rfl; have hx2_4 : w2.cell? ⟨gb2, 4, none⟩ = some (.slice A4 a.f2.f2.length c4) := (blk_cell BX2.out 4).trans rfl) | ((with_reducible refine gate_dst (N := 3) rfl ?_); refine box_event ?hg (N := 3) ?hd (cs := #[.slice B0 b.f0.length d0, .slice B1 b.f1.length d1, .int .i64 b.f2.f0, .int .i64 b.f2.f1, .slice B4 b.f2.f2.length d4]) (t := 56) ?hr ?_; (case hd => rfl); (case hg => rfl); (case hr => first | (go_simp; done) | (go_simp; rfl)); intro gb3 hg w3 hbox hb; have BX3 := Aside0.mk hbox; replace H0 := Aside0.mk (below_step H0.out hb); replace BX2 := Aside0.mk (blk_below BX2.out hb); replace HB := Aside0.mk (Below.refl w3.heap.size w3); clear hbox hb hg; have hx3_0 : w3.cell? ⟨gb3, 0, none⟩ = some (.slice B0 b.f0.length d0) := (blk_cell BX3.out 0).trans rfl; have hx3_1 : w3.cell? ⟨gb3, 1, none⟩ = some (.slice B1 b.f1.length d1) := (blk_cell BX3.out 1).trans rfl; have hx3_2 : w3.cell? ⟨gb3, 2, none⟩ = some (.int .i64 b.f2.f0) := (blk_cell BX3.out 2).trans rfl; have hx3_3 : w3.cell? ⟨gb3, 3, none⟩ = some (.int .i64 b.f2.f1) := (blk_cell BX3.out 3).trans rfl; have hx3_4 : w3.cell? ⟨gb3, 4, none⟩ = some (.slice B4 b.f2.f2.length d4) := (blk_cell BX3.out 4).trans rfl; replace hx2_0 : w3.cell? ⟨gb2, 0, none⟩ = some (.slice A0 a.f0.length c0) := (blk_cell BX2.out 0).trans rfl; replace hx2_1 : w3.cell? ⟨gb2, 1, none⟩ = some (.slice A1 a.f1.length c1) := (blk_cell BX2.out 1).trans rfl; replace hx2_2 : w3.cell? ⟨gb2, 2, none⟩ = some (.int .i64 a.f2.f0) := (blk_cell BX2.out 2).trans rfl; replace hx2_3 : w3.cell? ⟨gb2, 3, none⟩ = some (.int .i64 a.f2.f1) := (blk_cell BX2.out 3).trans rfl; replace hx2_4 : w3.cell? ⟨gb2, 4, none⟩ = some (.slice A4 a.f2.f2.length c4) := (blk_cell BX2.out 4).trans rfl))
    go_ret
    exact ⟨⟨false, rfl, ⟨fun h => (by cases h), fun h => absurd h HNO.out⟩⟩, below_step H0.out HB.out⟩
  have e3d_1 : ((a.f2.f1) == (b.f2.f1)) = true := beq_iff_eq.mpr e3
  have e3d_2 : ((a.f2.f1) != (b.f2.f1)) = false := bne_eq_false_iff_eq.mpr e3
  have E3 := Aside0.mk e3
  clear e0 e1 e2 e3
  go_enter Tryd.func58, Tryd.ntmps58
  go_wp2_with (first | ((with_reducible refine gate_dst (N := 2) rfl ?_); refine box_event ?hg (N := 2) ?hd (cs := #[.slice A0 a.f0.length c0, .slice A1 a.f1.length c1, .int .i64 a.f2.f0, .int .i64 a.f2.f1, .slice A4 a.f2.f2.length c4]) (t := 56) ?hr ?_; (case hd => rfl); (case hg => rfl); (case hr => first | (go_simp; done) | (go_simp; rfl)); intro gb2 hg w2 hbox hb; have BX2 := Aside0.mk hbox; have H0 := Aside0.mk hb; have HG2 := Aside0.mk hg; have HB := Aside0.mk (Below.refl w2.heap.size w2); clear hbox hb hg; have hx2_0 : w2.cell? ⟨gb2, 0, none⟩ = some (.slice A0 a.f0.length c0) := (blk_cell BX2.out 0).trans rfl; have hx2_1 : w2.cell? ⟨gb2, 1, none⟩ = some (.slice A1 a.f1.length c1) := (blk_cell BX2.out 1).trans rfl; have hx2_2 : w2.cell? ⟨gb2, 2, none⟩ = some (.int .i64 a.f2.f0) := (blk_cell BX2.out 2).trans rfl; have hx2_3 : w2.cell? ⟨gb2, 3, none⟩ = some (.int .i64 a.f2.f1) := (blk_cell BX2.out 3).trans rfl; have hx2_4 : w2.cell? ⟨gb2, 4, none⟩ = some (.slice A4 a.f2.f2.length c4) := (blk_cell BX2.out 4).trans rfl) | ((with_reducible refine gate_dst (N := 3) rfl ?_); refine box_event ?hg (N := 3) ?hd (cs := #[.slice B0 b.f0.length d0, .slice B1 b.f1.length d1, .int .i64 b.f2.f0, .int .i64 b.f2.f1, .slice B4 b.f2.f2.length d4]) (t := 56) ?hr ?_; (case hd => rfl); (case hg => rfl); (case hr => first | (go_simp; done) | (go_simp; rfl)); intro gb3 hg w3 hbox hb; have BX3 := Aside0.mk hbox; replace H0 := Aside0.mk (below_step H0.out hb); replace BX2 := Aside0.mk (blk_below BX2.out hb); replace HB := Aside0.mk (Below.refl w3.heap.size w3); clear hbox hb hg; have hx3_0 : w3.cell? ⟨gb3, 0, none⟩ = some (.slice B0 b.f0.length d0) := (blk_cell BX3.out 0).trans rfl; have hx3_1 : w3.cell? ⟨gb3, 1, none⟩ = some (.slice B1 b.f1.length d1) := (blk_cell BX3.out 1).trans rfl; have hx3_2 : w3.cell? ⟨gb3, 2, none⟩ = some (.int .i64 b.f2.f0) := (blk_cell BX3.out 2).trans rfl; have hx3_3 : w3.cell? ⟨gb3, 3, none⟩ = some (.int .i64 b.f2.f1) := (blk_cell BX3.out 3).trans rfl; have hx3_4 : w3.cell? ⟨gb3, 4, none⟩ = some (.slice B4 b.f2.f2.length d4) := (blk_cell BX3.out 4).trans rfl; replace hx2_0 : w3.cell? ⟨gb2, 0, none⟩ = some (.slice A0 a.f0.length c0) := (blk_cell BX2.out 0).trans rfl; replace hx2_1 : w3.cell? ⟨gb2, 1, none⟩ = some (.slice A1 a.f1.length c1) := (blk_cell BX2.out 1).trans rfl; replace hx2_2 : w3.cell? ⟨gb2, 2, none⟩ = some (.int .i64 a.f2.f0) := (blk_cell BX2.out 2).trans rfl; replace hx2_3 : w3.cell? ⟨gb2, 3, none⟩ = some (.int .i64 a.f2.f1) := (blk_cell BX2.out 3).trans rfl; replace hx2_4 : w3.cell? ⟨gb2, 4, none⟩ = some (.slice A4 a.f2.f2.length c4) := (blk_cell BX2.out 4).trans rfl))
  refine (ints_any a.f2.f2 b.f2.f2 A4 B4 c4 d4 (Kd.C_below (Kd.C_below HA4.out H0.out) HB.out) (Kd.C_below (Kd.C_below HB4.out H0.out) HB.out)).mono ?_
  rintro e w4 ⟨⟨r, rfl, hr⟩, hb⟩
  replace HB := Aside0.mk (below_step HB.out hb)
  clear hb e0d_1 e0d_2 e1d_1 e1d_2 e2d_1 e2d_2 e3d_1 e3d_2
  cases r with
  | false =>
    have HNO := Aside0.mk (show ¬ a = b from fun h => by have := hr.mpr (by rw [h]); cases this)
    clear hr
    go_wp2
    go_ret
    exact ⟨⟨false, rfl, ⟨fun h => (by cases h), fun h => absurd h HNO.out⟩⟩, below_step H0.out HB.out⟩
  | true =>
    have HT := Aside0.mk (hr.mp rfl)
    clear hr
    go_wp2
    go_loopw [5] (fun v5 wr => ∃ k : Nat, k ≤ a.f0.length ∧ v5 = .int .i64 k ∧ Aside0 (∀ j, j < k → a.f0.getD j z60 = b.f0.getD j z60) ∧ Aside0 (Below w3.heap.size w3 wr)) (fun v5 _ => a.f0.length - (intOf v5).toNat)
    case atStart => exact ⟨0, Nat.zero_le _, rfl, ⟨fun j hj => absurd hj (Nat.not_lt_zero _)⟩, HB⟩
    case round =>
      clear HB
      obtain ⟨k, hk, rfl, HK, HB⟩ := hrel
      have hx2_0 := bx_cell BX2.out HB.out 0 (v := .slice A0 a.f0.length c0) rfl
      have hx3_0 := bx_cell BX3.out HB.out 0 (v := .slice B0 b.f0.length d0) rfl
      have hxl := HA0.out.2.1
      by_cases hlt : k < a.f0.length
      · have t0 : decide ((k : Int) < (a.f0.length : Int)) = true := decide_eq_true (by omega)
        have p0 : 0 ≤ (k : Int) := by omega
        have q0 : (k : Int) < (a.f0.length : Int) := by omega
        have q2 : (k : Int) < (b.f0.length : Int) := by have := E0.out; omega
        obtain ⟨ax, A5, c5, ex, hu0, hu1, hl5, hi5⟩ := at_T60 (Kd.C_below (Kd.C_below HA0.out H0.out) HB.out) k p0 q0
        obtain ⟨ay, B5, d5, ey, hv0, hv1, hl6, hi6⟩ := at_T60 (Kd.C_below (Kd.C_below HB0.out H0.out) HB.out) k p0 q2
        cases ex
        cases ey
        rw [Int.toNat_natCast] at hu0 hu1 hv0 hv1
        obtain ⟨x, hx⟩ : ∃ x, x = rd_T60 a.f0 (k : Int) := ⟨_, rfl⟩
        obtain ⟨y, hy⟩ : ∃ y, y = rd_T60 b.f0 (k : Int) := ⟨_, rfl⟩
        have hgx : a.f0.getD k z60 = x := by rw [hx]; rfl
        have hgy : b.f0.getD k z60 = y := by rw [hy]; rfl
        rw [← hx] at hu0 hu1 hi5
        rw [← hy] at hv0 hv1 hi6
        have HX := Aside0.mk hgx
        have HY := Aside0.mk hgy
        have HI5 := Aside0.mk hi5
        have HI6 := Aside0.mk hi6
        have p1 := eq_true p0
        have q1 := eq_true q0
        have q3 := eq_true q2
        have HNE := Aside0.mk (show ¬ x = y → ¬ a = b from fun h e => h (by rw [← hgx, ← hgy, e]))
        clear hx hy hgx hgy hl5 hl6 hi5 hi6 p0 q0 q2
        have hxl2 := HI5.out.2.1
        by_cases d0 : x.f0 = y.f0
        rotate_left
        · have dd_1 : ((x.f0) == (y.f0)) = false := beq_eq_false_iff_ne.mpr d0
          have dd_2 : ((x.f0) != (y.f0)) = true := bne_iff_ne.mpr d0
          have HNO := Aside0.mk (HNE.out (fun h => d0 (by rw [h])))
          clear d0
          go_upto_region 6 with (fail)
          have f1 := far_cell hx2_0
          have f2 := far_cell hx3_0
          have f3 := far_cell hu0
          have f4 := far_cell hv0
          clear hx2_0 hx3_0 hu0 hv0 hu1 hv1
          refine region_far (by kernel_rfl) (by kernel_rfl) ?_
          repeat (go_big_quiet_step (fail))
          refine wpQuiet_nil ?_
          rintro _ ⟨⟨w9, hb⟩, rfl⟩
          replace HB := Aside0.mk (below_step HB.out hb)
          clear hb f1 f2 f3 f4
          go_wp2
          go_ret
          exact ⟨⟨false, rfl, ⟨fun h => (by cases h), fun h => absurd h HNO.out⟩⟩, below_step H0.out HB.out⟩
        have dd_1 : ((x.f0) == (y.f0)) = true := beq_iff_eq.mpr d0
        have dd_2 : ((x.f0) != (y.f0)) = false := bne_eq_false_iff_eq.mpr d0
        have D0 := Aside0.mk d0
        rw [← d0] at hv0
        clear d0
        by_cases d1 : x.f1 = y.f1
        rotate_left
        · have D1 := Aside0.mk d1
          have HNO := Aside0.mk (HNE.out (fun h => d1 (by rw [h])))
          clear d1
          go_upto_region 6 with (fail)
          have f1 := far_cell hx2_0
          have f2 := far_cell hx3_0
          have f3 := far_cell hu0
          have f4 := far_cell hv0
          have f5 := far_cell hu1
          have f6 := far_cell hv1
          clear hx2_0 hx3_0 hu0 hv0 hu1 hv1
          refine region_far (by kernel_rfl) (by kernel_rfl) ?_
          repeat (go_big_quiet_step ((go_at_call 57; refine Calls.far (Says.no (ints_any x.f1 y.f1 A5 B5 c5 d5 (Kd.C_below HI5.out (Far.h _)) (Kd.C_below HI6.out (Far.h _))) D1.out))))
          refine wpQuiet_nil ?_
          rintro _ ⟨⟨w9, hb⟩, rfl⟩
          replace HB := Aside0.mk (below_step HB.out hb)
          clear hb f1 f2 f3 f4 f5 f6
          go_wp2
          go_ret
          exact ⟨⟨false, rfl, ⟨fun h => (by cases h), fun h => absurd h HNO.out⟩⟩, below_step H0.out HB.out⟩
        · have D1 := Aside0.mk d1
          clear d1
          go_upto_region 6 with (fail)
          have f1 := far_cell hx2_0
          have f2 := far_cell hx3_0
          have f3 := far_cell hu0
          have f4 := far_cell hv0
          have f5 := far_cell hu1
          have f6 := far_cell hv1
          clear hx2_0 hx3_0 hu0 hv0 hu1 hv1
          refine region_far (by kernel_rfl) (by kernel_rfl) ?_
          repeat (go_big_quiet_step ((go_at_call 57; refine Calls.far (Says.yes (ints_any x.f1 y.f1 A5 B5 c5 d5 (Kd.C_below HI5.out (Far.h _)) (Kd.C_below HI6.out (Far.h _))) D1.out))))
          refine wpQuiet_nil ?_
          rintro _ ⟨⟨w9, hb⟩, rfl⟩
          replace HB := Aside0.mk (below_step HB.out hb)
          clear hb f1 f2 f3 f4 f5 f6
          go_wp2
          go_roundw
          case rel =>
            refine ⟨k + 1, hlt, by go_num, ⟨fun j hj => ?_⟩, HB⟩
            by_cases e : j = k
            · subst e
              rw [HX.out, HY.out]
              exact eqPhi D0.out D1.out
            · exact HK.out j (by omega)
          case measure => simp [intOf]; omega
      · have t0 : decide ((k : Int) < (a.f0.length : Int)) = false := decide_eq_false (by omega)
        obtain rfl : k = a.f0.length := by omega
        have HPS := Aside0.mk (ext_at (z := z60) (by have := E0.out; omega) HK.out)
        clear hlt hk hxl HK hx3_0
        go_wp2
        clear hx2_0
        obtain ⟨wo, rfl⟩ : ∃ wo : World, wo = wr := ⟨_, rfl⟩
        go_loopw [6] (fun v6 wr => ∃ k : Nat, k ≤ a.f1.length ∧ v6 = .int .i64 k ∧ Aside0 (∀ j, j < k → a.f1.getD j z58 = b.f1.getD j z58) ∧ Aside0 (Below w3.heap.size w3 wr)) (fun v6 _ => a.f1.length - (intOf v6).toNat)
        case atStart => exact ⟨0, Nat.zero_le _, rfl, ⟨fun j hj => absurd hj (Nat.not_lt_zero _)⟩, HB⟩
        case round =>
          clear HB
          obtain ⟨k, hk, rfl, HK, HB⟩ := hrel
          have hx2_1 := bx_cell BX2.out HB.out 1 (v := .slice A1 a.f1.length c1) rfl
          have hx3_1 := bx_cell BX3.out HB.out 1 (v := .slice B1 b.f1.length d1) rfl
          have hxl := HA1.out.2.1
          by_cases hlt : k < a.f1.length
          · have t0 : decide ((k : Int) < (a.f1.length : Int)) = true := decide_eq_true (by omega)
            have p0 : 0 ≤ (k : Int) := by omega
            have q0 : (k : Int) < (a.f1.length : Int) := by omega
            have q2 : (k : Int) < (b.f1.length : Int) := by have := E1.out; omega
            obtain ⟨ax, A5, c5, ex, hu0, hu1, hu2, hu3, hu4, hl5, hi5⟩ := at_T58 (Kd.C_below (Kd.C_below HA1.out H0.out) HB.out) k p0 q0
            obtain ⟨ay, B5, d5, ey, hv0, hv1, hv2, hv3, hv4, hl6, hi6⟩ := at_T58 (Kd.C_below (Kd.C_below HB1.out H0.out) HB.out) k p0 q2
            cases ex
            cases ey
            rw [Int.toNat_natCast] at hu0 hu1 hu2 hu3 hu4 hv0 hv1 hv2 hv3 hv4
            obtain ⟨x, hx⟩ : ∃ x, x = rd_T58 a.f1 (k : Int) := ⟨_, rfl⟩
            obtain ⟨y, hy⟩ : ∃ y, y = rd_T58 b.f1 (k : Int) := ⟨_, rfl⟩
            have hgx : a.f1.getD k z58 = x := by rw [hx]; rfl
            have hgy : b.f1.getD k z58 = y := by rw [hy]; rfl
            rw [← hx] at hu0 hu1 hu2 hu3 hu4 hi5
            rw [← hy] at hv0 hv1 hv2 hv3 hv4 hi6
            have HX := Aside0.mk hgx
            have HY := Aside0.mk hgy
            have HI5 := Aside0.mk hi5
            have HI6 := Aside0.mk hi6
            have p1 := eq_true p0
            have q1 := eq_true q0
            have q3 := eq_true q2
            have HNE := Aside0.mk (show ¬ x = y → ¬ a = b from fun h e => h (by rw [← hgx, ← hgy, e]))
            clear hx hy hgx hgy hl5 hl6 hi5 hi6 p0 q0 q2
            have hxl2 := HI5.out.2.1
            have b0 := World.block_lt_of_cell? wr _ hv0
            have b1 := World.block_lt_of_cell? wr _ hx3_1
            go_upto_region 13 with (fail)
            have hx7 := blk_new wr (.cells #[.int .i64 x.f0, .int .i64 x.f1, .slice A5 x.f2.length c5, .int .i64 x.f3, .int .i64 x.f4] 58)
            have hb7 := below_alloc (Below.refl wr.heap.size wr) (.cells #[.int .i64 x.f0, .int .i64 x.f1, .slice A5 x.f2.length c5, .int .i64 x.f3, .int .i64 x.f4] 58)
            have hx8 := blk_new (wr.alloc (.cells #[.int .i64 x.f0, .int .i64 x.f1, .slice A5 x.f2.length c5, .int .i64 x.f3, .int .i64 x.f4] 58)) (.cells #[.int .i64 y.f0, .int .i64 y.f1, .slice B5 y.f2.length d5, .int .i64 y.f3, .int .i64 y.f4] 58)
            have hb8 := below_alloc hb7 (.cells #[.int .i64 y.f0, .int .i64 y.f1, .slice B5 y.f2.length d5, .int .i64 y.f3, .int .i64 y.f4] 58)
            replace hx7 := blk_alloc hx7 (.cells #[.int .i64 y.f0, .int .i64 y.f1, .slice B5 y.f2.length d5, .int .i64 y.f3, .int .i64 y.f4] 58)
            rw [show (wr.alloc (.cells #[.int .i64 x.f0, .int .i64 x.f1, .slice A5 x.f2.length c5, .int .i64 x.f3, .int .i64 x.f4] 58)).heap.size = wr.heap.size + 1 by simp] at hx8
            generalize (wr.alloc (.cells #[.int .i64 x.f0, .int .i64 x.f1, .slice A5 x.f2.length c5, .int .i64 x.f3, .int .i64 x.f4] 58)).alloc (.cells #[.int .i64 y.f0, .int .i64 y.f1, .slice B5 y.f2.length d5, .int .i64 y.f3, .int .i64 y.f4] 58) = w8 at hb8 hx8 hx7 ⊢
            generalize wr.heap.size = g7 at hx8 hx7 ⊢
            have HI7 := Aside0.mk (Kd.C_below HI5.out hb8)
            have HI8 := Aside0.mk (Kd.C_below HI6.out hb8)
            replace HB := Aside0.mk (below_step HB.out hb8)
            have BX7 := Aside0.mk hx7
            have BX8 := Aside0.mk hx8
            clear hb7 hb8 hx7 hx8 hx2_1 hx3_1 hu0 hu1 hu2 hu3 hu4 hv0 hv1 hv2 hv3 hv4 b0 b1 HI5 HI6
            have h7_0 : w8.cell? ⟨g7, 0, none⟩ = some (.int .i64 x.f0) := (blk_cell BX7.out 0).trans rfl
            have h8_0 : w8.cell? ⟨g7 + 1, 0, none⟩ = some (.int .i64 y.f0) := (blk_cell BX8.out 0).trans rfl
            have h7_1 : w8.cell? ⟨g7, 1, none⟩ = some (.int .i64 x.f1) := (blk_cell BX7.out 1).trans rfl
            have h8_1 : w8.cell? ⟨g7 + 1, 1, none⟩ = some (.int .i64 y.f1) := (blk_cell BX8.out 1).trans rfl
            have h7_2 : w8.cell? ⟨g7, 2, none⟩ = some (.slice A5 x.f2.length c5) := (blk_cell BX7.out 2).trans rfl
            have h8_2 : w8.cell? ⟨g7 + 1, 2, none⟩ = some (.slice B5 y.f2.length d5) := (blk_cell BX8.out 2).trans rfl
            have h7_3 : w8.cell? ⟨g7, 3, none⟩ = some (.int .i64 x.f3) := (blk_cell BX7.out 3).trans rfl
            have h8_3 : w8.cell? ⟨g7 + 1, 3, none⟩ = some (.int .i64 y.f3) := (blk_cell BX8.out 3).trans rfl
            have h7_4 : w8.cell? ⟨g7, 4, none⟩ = some (.int .i64 x.f4) := (blk_cell BX7.out 4).trans rfl
            have h8_4 : w8.cell? ⟨g7 + 1, 4, none⟩ = some (.int .i64 y.f4) := (blk_cell BX8.out 4).trans rfl
            by_cases s0 : x.f0 = y.f0
            rotate_left
            · have sd0_1 : ((x.f0) == (y.f0)) = false := beq_eq_false_iff_ne.mpr s0
              have sd0_2 : ((x.f0) != (y.f0)) = true := bne_iff_ne.mpr s0
              have HNO := Aside0.mk (HNE.out (fun h => s0 (by rw [h])))
              clear s0
              go_wp2
              go_ret
              exact ⟨⟨false, rfl, ⟨fun h => (by cases h), fun h => absurd h HNO.out⟩⟩, below_step H0.out HB.out⟩
            have sd0_1 : ((x.f0) == (y.f0)) = true := beq_iff_eq.mpr s0
            have sd0_2 : ((x.f0) != (y.f0)) = false := bne_eq_false_iff_eq.mpr s0
            have S0 := Aside0.mk s0
            clear s0
            by_cases s1 : x.f1 = y.f1
            rotate_left
            · have sd1_1 : ((x.f1) == (y.f1)) = false := beq_eq_false_iff_ne.mpr s1
              have sd1_2 : ((x.f1) != (y.f1)) = true := bne_iff_ne.mpr s1
              have HNO := Aside0.mk (HNE.out (fun h => s1 (by rw [h])))
              clear s1
              go_wp2
              go_ret
              exact ⟨⟨false, rfl, ⟨fun h => (by cases h), fun h => absurd h HNO.out⟩⟩, below_step H0.out HB.out⟩
            have sd1_1 : ((x.f1) == (y.f1)) = true := beq_iff_eq.mpr s1
            have sd1_2 : ((x.f1) != (y.f1)) = false := bne_eq_false_iff_eq.mpr s1
            have S1 := Aside0.mk s1
            clear s1
            by_cases s2 : x.f2 = y.f2
            rotate_left
            · have S2 := Aside0.mk s2
              have HNO := Aside0.mk (HNE.out (fun h => s2 (by rw [h])))
              clear s2
              go_wp2_with (fail)
              refine (Says.no (ints_any x.f2 y.f2 A5 B5 c5 d5 HI7.out HI8.out) S2.out).mono ?_
              rintro e w9 ⟨rfl, hb⟩
              replace HB := Aside0.mk (below_step HB.out hb)
              clear hb
              go_wp2
              go_ret
              exact ⟨⟨false, rfl, ⟨fun h => (by cases h), fun h => absurd h HNO.out⟩⟩, below_step H0.out HB.out⟩
            have S2 := Aside0.mk s2
            clear s2
            go_wp2_with (fail)
            refine (Says.yes (ints_any x.f2 y.f2 A5 B5 c5 d5 HI7.out HI8.out) S2.out).mono ?_
            rintro e w9 ⟨rfl, hb⟩
            have h9_3 : w9.cell? ⟨g7, 3, none⟩ = some (.int .i64 x.f3) := bx_cell BX7.out hb 3 rfl
            have h6_3 : w9.cell? ⟨g7 + 1, 3, none⟩ = some (.int .i64 y.f3) := bx_cell BX8.out hb 3 rfl
            have h9_4 : w9.cell? ⟨g7, 4, none⟩ = some (.int .i64 x.f4) := bx_cell BX7.out hb 4 rfl
            have h6_4 : w9.cell? ⟨g7 + 1, 4, none⟩ = some (.int .i64 y.f4) := bx_cell BX8.out hb 4 rfl
            replace HB := Aside0.mk (below_step HB.out hb)
            clear hb
            by_cases s3 : x.f3 = y.f3
            rotate_left
            · have sd3_1 : ((x.f3) == (y.f3)) = false := beq_eq_false_iff_ne.mpr s3
              have sd3_2 : ((x.f3) != (y.f3)) = true := bne_iff_ne.mpr s3
              have HNO := Aside0.mk (HNE.out (fun h => s3 (by rw [h])))
              clear s3
              go_wp2
              go_ret
              exact ⟨⟨false, rfl, ⟨fun h => (by cases h), fun h => absurd h HNO.out⟩⟩, below_step H0.out HB.out⟩
            have sd3_1 : ((x.f3) == (y.f3)) = true := beq_iff_eq.mpr s3
            have sd3_2 : ((x.f3) != (y.f3)) = false := bne_eq_false_iff_eq.mpr s3
            have S3 := Aside0.mk s3
            clear s3
            by_cases s4 : x.f4 = y.f4
            rotate_left
            · have sd4_1 : ((x.f4) == (y.f4)) = false := beq_eq_false_iff_ne.mpr s4
              have sd4_2 : ((x.f4) != (y.f4)) = true := bne_iff_ne.mpr s4
              have HNO := Aside0.mk (HNE.out (fun h => s4 (by rw [h])))
              clear s4
              go_wp2
              go_ret
              exact ⟨⟨false, rfl, ⟨fun h => (by cases h), fun h => absurd h HNO.out⟩⟩, below_step H0.out HB.out⟩
            have sd4_1 : ((x.f4) == (y.f4)) = true := beq_iff_eq.mpr s4
            have sd4_2 : ((x.f4) != (y.f4)) = false := bne_eq_false_iff_eq.mpr s4
            have S4 := Aside0.mk s4
            clear s4
            go_wp2
            go_roundw
            case rel =>
              refine ⟨k + 1, hlt, by go_num, ⟨fun j hj => ?_⟩, HB⟩
              by_cases e : j = k
              · subst e
                rw [HX.out, HY.out]
                exact eqInstr S0.out S1.out S2.out S3.out S4.out
              · exact HK.out j (by omega)
            case measure => simp [intOf]; omega
          · have t0 : decide ((k : Int) < (a.f1.length : Int)) = false := decide_eq_false (by omega)
            obtain rfl : k = a.f1.length := by omega
            have HXS := Aside0.mk (ext_at (z := z58) (by have := E1.out; omega) HK.out)
            clear hlt hk hxl HK hx3_1
            go_wp2
            go_ret
            exact ⟨⟨true, rfl, ⟨fun _ => eqBlock HPS.out HXS.out E2.out E3.out HT.out, fun _ => rfl⟩⟩, below_step H0.out HB.out⟩
end Go.Proofs.YtckebppacealeaaDoor.Lk
