/- General words: lists, worlds in which all that lay lies. Conditions: none. -/
import Derived.Test.YtpionncanaamgaaPLoopsStaysx0
import Derived.WalkSpells
import Derived.Deep.RegionHeld3
set_option linter.unusedVariables false
set_option linter.unusedSimpArgs false
namespace Go.Proofs.Ytpionncanaamgaa.Lp
open Go.RowKit Go.Proofs.Ytpionncanaamgaa.PLoopsStays Go.Proofs.YtpionncanaamgaaW.PrintWords Go.Proofs.YtpionncanaamgaaW.PrintLast
theorem w64n {n : Nat} (h : n < 4611686018427387904) : wrap64 ((n : Int) + 1) = ((n + 1 : Nat) : Int) := by rw [wrap64]; omega
theorem getD_at {α : Type} (l : List α) (i : Nat) (d : α) (h : i < l.length) : l.getD i d = l[i] := by simp [List.getD_eq_getElem?_getD, h]
theorem getD_set {α : Type} (l : List α) (i j : Nat) (v d : α) (h : i < l.length) : (l.set i v).getD j d = if i = j then v else l.getD j d := by
  simp only [List.getD_eq_getElem?_getD, List.getElem?_set]
  by_cases e : i = j
  · subst e; simp [h]
  · simp [e]
theorem ext_getD {α : Type} (d : α) {l m : List α} (h : l.length = m.length) (g : ∀ i, i < l.length → l.getD i d = m.getD i d) : l = m := by
  apply List.ext_getElem h
  intro i h1 h2
  have := g i h1
  rwa [getD_at _ _ _ h1, getD_at _ _ _ h2] at this
theorem getD_mem {α : Type} (l : List α) (i : Nat) (d : α) (h : i < l.length) : l.getD i d ∈ l := by
  rw [getD_at _ _ _ h]; exact List.getElem_mem h
theorem mem_getD {α : Type} {l : List α} {x : α} (d : α) (h : x ∈ l) : ∃ i, i < l.length ∧ l.getD i d = x := by
  obtain ⟨i, hi, e⟩ := List.getElem_of_mem h
  exact ⟨i, hi, by rw [getD_at _ _ _ hi]; exact e⟩
theorem getD_rep {α : Type} (n i : Nat) (v d : α) (h : i < n) : (List.replicate n v).getD i d = v := by simp [List.getD_eq_getElem?_getD, h]
theorem drop_at {α : Type} (l : List α) (i : Nat) (d : α) (h : i < l.length) : l.drop i = l.getD i d :: l.drop (i + 1) := by
  rw [getD_at _ _ _ h]; exact List.drop_eq_getElem_cons h
end Go.Proofs.Ytpionncanaamgaa.Lp
namespace Go.Proofs.Ytpionncanaamgaa.Lk
open Go.RowKit Go.Proofs.YtpionncanaamgaaW.PrintWords Go.Proofs.YtpionncanaamgaaW.PrintLast Go.Proofs.YtpionncanaamgaaW.PrintMore Go.Proofs.YtpionncanaamgaaW.PrintWords.Kd Go.Proofs.Ytpionncanaamgaa.PLoopsStays
variable {w w1 : World}
abbrev Fn := S25
abbrev Bk := S52
abbrev In := S64
abbrev Ph := S62
abbrev Tm := S47
/-- A world in which all that lay in w lies. -/
structure Far (w : World) where
  wd : World
  h : Below w.heap.size w wd
instance : Inhabited (Far w) := ⟨⟨w, Below.refl _ _⟩⟩
theorem region_far {P : Program} {id : Nat} {Q : Exit → Act → World → Prop} {a : Act} {w : World} {l : List Oper} (hm : P.follows .mixedOrders = true) (hB : Region.lexB .any l.toArray = true)
    (h : wpQuiet P l.toArray (fun w' => ∃ p : Far w, w' = p.wd) (fun a' => ∀ w', (∃ p : Far w, w' = p.wd) → Q .normal a' w') l a) : (Code.region id l.toArray true).wp P Q a w :=
  wp_region_quiet (C := fun w' => ∃ p : Far w, w' = p.wd) hm hB ⟨⟨w.drewN 1, pw_below_drewN (Below.refl _ _) 1⟩, rfl⟩ (by simpa using h)
theorem far_cell {a : Addr} {v : Value} (h : w.cell? a = some v) (p : Far w) : p.wd.cell? a = some v := (p.h.cell (World.block_lt_of_cell? w _ h)).trans h
theorem Calls.far {P : Program} {g : FuncId} {args : Array Value} {p : Far w} {v : Value} (h : Calls P g args p.wd fun e w' => e = .returned v ∧ Below p.wd.heap.size p.wd w') : Calls P g args p.wd fun e w'' => e = .returned v ∧ ∃ q : Far w, w'' = q.wd :=
  h.mono fun _ w2 ⟨he, hb⟩ => ⟨he, ⟨w2, below_step p.h hb⟩, rfl⟩
theorem bx_cell {w2 wc : World} {gb : Nat} {cs : Array Value} {t : TypeId} {v : Value} (h : w2.heap[gb]? = some (.cells cs t (0, 0))) (hb : Below w2.heap.size w2 wc) (i : Nat) (hv : cs[i]? = some v) : wc.cell? ⟨gb, i, none⟩ = some v :=
  (blk_cell (blk_below h hb) i).trans hv
end Go.Proofs.Ytpionncanaamgaa.Lk
