/- fettlelaw00.Is: of a *Spot at n that wraps a code: whether it is the code asked for at the place asked for. Conditions: errors.errorType holds the handle of error; the Spot's two cells. -/
import Derived.Test.YtckebppacealeaaDoorNb
import Derived.Test.YtckebppacealeaaDoorNa
import Derived.Test.YtckebppacealeaaDoorV0
set_option linter.unusedVariables false
namespace Go.Proofs.YtckebppacealeaaDoor.Nc
open Go Go.RowKit Go.Extern.Stop Go.Stop Go.Extern Go.Proofs.YtckebppacealeaaDoorW.PrintWords Go.Proofs.YtckebppacealeaaDoorW.PrintLast Go.Proofs.YtckebppacealeaaDoorW.PrintMore Go.Proofs.YtckebppacealeaaDoorW.PrintWords.Kd
theorem compS : (Tryd.prog.info? 67).map (·.comparable) = some true := by kernel_rfl
theorem compT : (Tryd.prog.info? 72).map (·.comparable) = some true := by kernel_rfl
theorem eq_ptr {w : World} (a : Addr) : (Go.binOp .eql 29 (.iface 67 (.pointer (some a))) (.iface 67 (.pointer (some a)))).run Tryd.prog w = .ok (.bool true) w := by
  obtain ⟨i, hi, hcmp⟩ := Option.map_eq_some_iff.1 compS
  obtain ⟨j, hj, hjs⟩ := Option.map_eq_some_iff.1 compT
  exact run_eql_iface_ptr_same w a Tryd.underlying29 Tryd.underlying67 hi hcmp hj
theorem ne_ptr {w : World} (a : Addr) : (Go.binOp .neq 29 (.iface 67 (.pointer (some a))) (.iface 67 (.pointer (some a)))).run Tryd.prog w = .ok (.bool false) w := by
  obtain ⟨i, hi, hcmp⟩ := Option.map_eq_some_iff.1 compS
  obtain ⟨j, hj, hjs⟩ := Option.map_eq_some_iff.1 compT
  simp only [Go.binOp]
  simp [Op.equal, Op.maxDepth, run_equalIn_iface_ptr_same w 9998 a Tryd.underlying29 Tryd.underlying67 hi hcmp hj]
theorem bool_or (b : Bool) : b = true ∨ b = false := by cases b <;> simp
/-- errors.As into a fresh *Spot variable. -/
theorem as_new (e : Addr) (w : World) (hg : w.cell? ⟨0, 0, none⟩ = some (.iface 130 (.agg #[.pointer (some ⟨1, 29, none⟩)]))) :
    Calls Tryd.prog 25 #[.iface 67 (.pointer (some e)), .iface 69 (.pointer (some ⟨w.heap.size, 0, none⟩))] (w.alloc (.cells #[.pointer none] 67)) fun ev w' => ev = .returned (.bool true) ∧ w'.cell? ⟨w.heap.size, 0, none⟩ = some (.pointer (some e)) ∧ Below w.heap.size w w' := by
  have hlt : 0 < w.heap.size := World.block_lt_of_cell? w _ hg
  refine (Na.as_hit e ⟨w.heap.size, 0, none⟩ (.pointer none) (w.alloc (.cells #[.pointer none] 67)) ?_ ?_ ?_).mono ?_
  · rw [World.cell?_alloc_lt _ _ ⟨0, 0, none⟩ hlt]; exact hg
  · simp
  · simp
  · rintro ev w' ⟨rfl, rfl⟩
    refine ⟨rfl, ?_, ?_⟩
    · rw [World.cell?_setCell_same (u := .pointer none)]
      rw [World.cell?_alloc_lt _ _ ⟨w.heap.size, 0, none⟩ (by simp; omega), World.cell?_alloc_lt _ _ ⟨w.heap.size, 0, none⟩ (by simp; omega), World.cell?_alloc_lt _ _ ⟨w.heap.size, 0, none⟩ (by simp; omega), World.cell?_alloc_lt _ _ ⟨w.heap.size, 0, none⟩ (by simp)]
      simp
    · exact (((Below.refl _ _).alloc (Nat.le_refl _) _ |>.alloc (by simp) _ |>.alloc (by simp; omega) _ |>.alloc (by simp; omega) _ |>.alloc (by simp; omega) _).setCell (Nat.le_refl _) _)
set_option maxHeartbeats 4000000 in
set_option maxRecDepth 100000 in
/-- fettlelaw00.Is of a Spot at a, of the code d: whether d is c and a is n. -/
theorem is_spot (b : Nat) (a n c d : Int) (w : World) (hg : w.cell? ⟨0, 0, none⟩ = some (.iface 130 (.agg #[.pointer (some ⟨1, 29, none⟩)])))
    (hx : w.heap[b]? = some (.cells #[.int .i64 a, .iface 46 (.int .i64 d)] 72 (0, 0))) :
    Calls Tryd.prog 19 #[.iface 67 (.pointer (some ⟨b, 0, none⟩)), .int .i64 n, .int .i64 c] w fun e w' => e = .returned (.bool (d == c && a == n)) ∧ Below w.heap.size w w' := by
  have he := @Nb.eq_code
  have hn := @ne_ptr
  have HX := Aside0.mk hx
  have HG := Aside0.mk hg
  clear hx hg
  go_enter Tryd.func19, Tryd.ntmps19
  go_wp2_with (fail)
  refine (as_new ⟨b, 0, none⟩ w HG.out).mono ?_
  rintro e w2 ⟨rfl, hs, hb⟩
  have HB := Aside0.mk hb
  have HX2 := Aside0.mk (blk_below HX.out hb)
  have hc0 : w2.cell? ⟨b, 0, none⟩ = some (.int .i64 a) := (blk_cell HX2.out 0).trans rfl
  have hc1 : w2.cell? ⟨b, 1, none⟩ = some (.iface 46 (.int .i64 d)) := (blk_cell HX2.out 1).trans rfl
  clear hb
  go_wp2_with (fail)
  refine (Nb.Is_any b c d w2 hc1).mono ?_
  rintro e w3 ⟨rfl, rfl⟩
  rcases bool_or (d == c) with hd | hd
  · rcases bool_or (a == n) with ha | ha
    · go_wp2
      go_ret
      exact ⟨by rw [hd, ha]; rfl, HB.out⟩
    · go_wp2
      go_ret
      exact ⟨by rw [hd, ha]; rfl, HB.out⟩
  · go_wp2
    go_ret
    exact ⟨by rw [hd]; rfl, HB.out⟩
end Go.Proofs.YtckebppacealeaaDoor.Nc
