/- Find, Len and New. Conditions: none beyond the table's own. -/
import Derived.Test.YtaedbjjjdafabaaTc
namespace Go.Proofs.Ytaedbjjjdafabaa.Tb
open Go.RowKit Go.Proofs.YtaedbjjjdafabaaW.PrintWords Go.Proofs.YtaedbjjjdafabaaW.PrintLast Go.Proofs.YtaedbjjjdafabaaW.PrintMore Go.Proofs.YtaedbjjjdafabaaW.PrintWords.Kd Go.Maps Go.Proofs.Ytaedbjjjdafabaa.PInternFull
attribute [local go_sem] max2_int min2_int max_two min_two max_three min_three max_four min_four
set_option linter.unusedVariables false
set_option linter.unusedSimpArgs false
variable {w w1 : World} {b gt : Nat} {A : Option Addr} {n c bm m : Nat} {X : List (List (Int × Int))} {D : DataW Unit}
set_option maxHeartbeats 4000000 in
set_option maxRecDepth 100000 in
theorem find_any (h : Tab w b gt A n c bm m X D) (x y : Int) (hx : (Lit.int .i64 x).wf = true) (hy : (Lit.int .i64 y).wf = true) :
    Calls Try.prog 11 #[.pointer (some ⟨gt, 0, none⟩), .int .i64 x, .int .i64 y] w fun e w' => (∃ r, D.atKey (KL x y) (.lit (.int .i64 0)) = .lit (.int .i64 r) ∧ e = .returned (.tuple #[.int .i64 r, .bool (Maps.has D (KL x y))])) ∧ Drawn0 w w' := by
  obtain ⟨r, hr, _, hrun⟩ := h.look hx hy
  have HR := Aside0.mk hr
  have hc1 := (blk_cell h.blk 1).trans (show _ = some (.map (some bm)) from rfl)
  have hrun0 := hrun 0
  rw [show w.drewN 0 = w from rfl] at hrun0
  clear h hr hrun
  go_enter Try.func11, Try.ntmps11
  go_wp2
  go_ret2
  exact ⟨⟨r, HR.out, rfl⟩, Drawn0.refl _⟩
set_option maxHeartbeats 4000000 in
set_option maxRecDepth 100000 in
theorem len_any (h : Tab w b gt A n c bm m X D) :
    Calls Try.prog 12 #[.pointer (some ⟨gt, 0, none⟩)] w fun e w' => e = .returned (.int .i64 (Maps.size D)) ∧ w = w' := by
  have HT := Aside0.mk h
  have hc1 := (blk_cell h.blk 1).trans (show _ = some (.map (some bm)) from rfl)
  clear h
  go_enter Try.func12, Try.ntmps12
  go_wp2_with (at_len; refine wpList_len_own _ rfl _ 47 rfl 40 3 Try.underlying47 (plainElem Try.prog 3) bm m D rfl HT.out.map ?_)
  go_ret
  exact ⟨rfl, rfl⟩
set_option maxHeartbeats 4000000 in
set_option maxRecDepth 100000 in
theorem new_any (s : Int) (h1 : 1 ≤ s) (h2 : s ≤ 16) (w : World) :
    Calls Try.prog 9 #[.int .i64 s] w fun e w' => (∃ gt A c bm, e = .returned (.tuple #[.pointer (some ⟨gt, 0, none⟩), .nilIface]) ∧ Tab w' w.heap.size gt A s.toNat c bm 0 (List.replicate s.toNat []) (.map [])) ∧ Below w.heap.size w w' := by
  have HB := Aside0.mk (Below.refl w.heap.size w)
  have d1 : decide (s < 1) = false := decide_eq_false (by omega)
  have d2 : decide (16 < s) = false := decide_eq_false (by omega)
  have hmm := @run_makeMap Try.prog
  go_enter Try.func9, Try.ntmps9
  go_wp2_with ((with_reducible refine gate_dst (N := 12) rfl ?_); refine Kd.S_make (Kd.slice 40 kV) (w0 := w) w.heap.size 36 rfl (N := 12) rfl 46 _ _ rfl s rfl rfl Try.underlying46 (.slice none 0 0) 24 info36 rfl (by decide) (by omega) [] (ok := fun _ => True) (okp := fun _ => True) ?sideZ (fun _ h => h) trivial (by omega) ?sideL (Below.refl _ _) (Nat.le_refl _) ?_; (case sideZ => exact ⟨_, rfl, R_nil _ _ _ _ _⟩); (case sideL => omega); intro v1 w1 hS hb hg hat; have HS := Aside0.mk hS; have HB1 := Aside0.mk hb; obtain ⟨A1, c1, e1⟩ := S_slice hS; subst e1; have HS := Aside0.mk hS; have HB1 := Aside0.mk hb; clear hS hb hg hat)
  go_ret2
  have hm := World.ownsMap_made w1 Try.prog 40 (plainElem (H := Unit) Try.prog 3)
  have hs := HS.out
  rw [List.length_replicate] at hs
  refine ⟨⟨_, A1, c1, w1.heap.size, rfl, ?_, ?_, ?_, ?_, ?_⟩, ?_⟩
  · have e := blk_new (w1.alloc (.map #[] 0)) (.cells #[.slice A1 s.toNat c1, .map (some w1.heap.size)] 49)
    rw [show (w1.alloc (.map #[] 0)).heap.size = w1.heap.size + 1 from by show (w1.heap.push _).size = _; simp] at e
    exact e
  · exact S_alloc (S_alloc hs _) _
  · exact hm.alloc _
  · exact Nat.le_succ_of_le HB1.out.size
  · exact HB1.out.size
  · exact below_alloc (below_alloc HB1.out _) _
set_option maxHeartbeats 4000000 in
set_option maxRecDepth 100000 in
theorem new_bad (s : Int) (h : s < 1 ∨ 16 < s) (w : World) :
    Calls Try.prog 9 #[.int .i64 s] w fun e w' => e = .returned (.tuple #[.pointer none, .iface 31 (.int .i64 1)]) ∧ Below w.heap.size w w' := by
  have HB := Aside0.mk (Below.refl w.heap.size w)
  by_cases h1 : s < 1
  · have d1 : decide (s < 1) = true := decide_eq_true h1
    go_enter Try.func9, Try.ntmps9
    go_wp2
    go_ret2
    exact ⟨rfl, HB.out⟩
  · have d1 : decide (s < 1) = false := decide_eq_false h1
    have d2 : decide (16 < s) = true := decide_eq_true (by omega)
    go_enter Try.func9, Try.ntmps9
    go_wp2
    go_ret2
    exact ⟨rfl, HB.out⟩
end Go.Proofs.Ytaedbjjjdafabaa.Tb
