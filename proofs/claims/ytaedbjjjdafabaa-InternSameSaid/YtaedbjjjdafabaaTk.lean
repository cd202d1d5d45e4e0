/- A row of values of the call's own as the sort of the library reads it, and behind the sort. Conditions: none. -/
import Derived.Test.YtaedbjjjdafabaaTj
import Derived.Sort.OwnSorted
namespace Go.Proofs.Ytaedbjjjdafabaa.Tb
open Go.RowKit Go.Proofs.YtaedbjjjdafabaaW.PrintWords Go.Proofs.YtaedbjjjdafabaaW.PrintLast Go.Proofs.YtaedbjjjdafabaaW.PrintMore Go.Proofs.YtaedbjjjdafabaaW.PrintWords.Kd Go.Maps Go.Proofs.Ytaedbjjjdafabaa.PInternFull
attribute [local go_sem] max2_int min2_int max_two min_two max_three min_three max_four min_four
set_option linter.unusedVariables false
set_option linter.unusedSimpArgs false
open Go.Sort (Holds putRow putCells mapBlock onCells HoldsK putRowK flatK SWO)
variable {w w1 : World} {b g gt : Nat} {A : Option Addr} {n c bm m : Nat} {X : List (List (Int × Int))} {D : DataW Unit}
def encV (x : Int × Int) : List Value := [.int .i64 x.1, .int .i64 x.2]
theorem flat_get (l : List (Int × Int)) (j r : Nat) (hj : j < l.length) (hr : r < 2) : (flatK encV 2 l.toArray)[j * 2 + r]? = some ((encV (l.getD j (0, 0)))[r]!) := by
  have hlt : j * 2 + r < l.toArray.size * 2 := by simp; omega
  have h := Go.Sort.get_flatK encV 2 l.toArray (j * 2 + r) hlt
  rw [show (j * 2 + r) / 2 = j by omega, show (j * 2 + r) % 2 = r by omega] at h
  rw [getElem!_pos _ _ (by rw [Go.Sort.size_flatK]; exact hlt)] at h
  rw [Array.getElem?_eq_getElem (by rw [Go.Sort.size_flatK]; exact hlt), h]
  have e : l.toArray[j]! = l.getD j (0, 0) := by simp [List.getElem?_eq_getElem hj, hj]
  rw [e]
theorem drop_take2 (F : List Value) (k : Nat) (x y : Value) (h0 : F[k]? = some x) (h1 : F[k + 1]? = some y) : (F.drop k).take 2 = [x, y] := by
  obtain ⟨l0, e0⟩ := List.getElem?_eq_some_iff.1 h0
  obtain ⟨l1, e1⟩ := List.getElem?_eq_some_iff.1 h1
  rw [List.drop_eq_getElem_cons l0, List.drop_eq_getElem_cons l1, e0, e1]
  rfl
theorem kV_M {w : World} {base : Nat} {ok : Nat → Prop} {x : Int × Int} {cs : List Value} : kV.M w base ok x cs ↔ cs = encV x := by
  constructor
  · rintro ⟨c0, c1, rfl, rfl, rfl⟩
    rfl
  · rintro rfl
    exact ⟨[.int .i64 x.1], [.int .i64 x.2], rfl, rfl, rfl⟩
theorem kV_K {w : World} {x : Int × Int} {cs : List Value} : kV.K w x cs ↔ cs = encV x := by
  constructor
  · rintro ⟨c0, c1, rfl, rfl, rfl⟩
    rfl
  · rintro rfl
    exact ⟨[.int .i64 x.1], [.int .i64 x.2], rfl, rfl, rfl⟩
/-- A row of values of the call's own: nil and empty, or at the head of its block. -/
theorem own_cases {v : Value} {l : List (Int × Int)} (h : Own w b v l) : (v = .slice none 0 0 ∧ l = []) ∨
    ∃ g cap cur, v = .slice (some ⟨g, 0, none⟩) l.length cap ∧ b ≤ g ∧ w.heap[g]? = some (.cells cur 40 (0, 0)) ∧ l.length ≤ cap ∧ cap ≤ maxLen ∧ cur.size = cap * 2 ∧ ∀ j, j < l.length → cur[j * 2]? = some (.int .i64 (l.getD j (0, 0)).1) ∧ cur[j * 2 + 1]? = some (.int .i64 (l.getD j (0, 0)).2) := by
  obtain ⟨_, inner, ⟨hlen, ho⟩, hr⟩ := h
  rcases ho with ⟨rfl, hn⟩ | ⟨g, cap, cur, rfl, hg, hh, h1, h2, h3, h4⟩
  · exact .inl ⟨rfl, List.length_eq_zero_iff.1 hn⟩
  · refine .inr ⟨g, cap, cur, rfl, hg, hh, h1, h2, h3, fun j hj => ?_⟩
    have hM := kV_M.1 (hr.2 j _ (List.getElem?_eq_getElem hj))
    have e : l[j] = l.getD j (0, 0) := by simp [List.getElem?_eq_getElem hj]
    rw [e, show kV.sz = 2 from rfl] at hM
    have key : ∀ r, r < 2 → cur[j * 2 + r]? = (encV (l.getD j (0, 0)))[r]? := fun r hr2 => by
      rw [← hM, List.getElem?_take_of_lt hr2, List.getElem?_drop, ← h4, List.getElem?_take_of_lt (by rw [show kV.sz = 2 from rfl]; omega), Array.getElem?_toList]
    exact ⟨key 0 (by omega), key 1 (by omega)⟩
theorem own_of_cells {l : List (Int × Int)} {g cap : Nat} {cur : Array Value} (hg : b ≤ g) (hh : w.heap[g]? = some (.cells cur 40 (0, 0))) (h1 : l.length ≤ cap) (h2 : cap ≤ maxLen) (h3 : cur.size = cap * 2)
    (hc : ∀ j, j < l.length → cur[j * 2]? = some (.int .i64 (l.getD j (0, 0)).1) ∧ cur[j * 2 + 1]? = some (.int .i64 (l.getD j (0, 0)).2)) : Own w b (.slice (some ⟨g, 0, none⟩) l.length cap) l := by
  refine ⟨fun k hk => by simp [Value.ownBlock] at hk; omega, cur.toList.take (l.length * 2), ⟨by rw [show kV.sz = 2 from rfl]; simp; omega, .inr ⟨g, cap, cur, rfl, hg, hh, h1, h2, h3, rfl⟩⟩, by rw [show kV.sz = 2 from rfl]; simp; omega, fun j p hj => kV_M.2 ?_⟩
  obtain ⟨hl, rfl⟩ := List.getElem?_eq_some_iff.1 hj
  obtain ⟨c0, c1⟩ := hc j hl
  have e : l[j] = l.getD j (0, 0) := by simp [List.getElem?_eq_getElem hl]
  rw [e]
  exact drop_take2 _ _ _ _ (by rw [show kV.sz = 2 from rfl, List.getElem?_take_of_lt (by omega), Array.getElem?_toList]; exact c0) (by rw [show kV.sz = 2 from rfl, List.getElem?_take_of_lt (by omega), Array.getElem?_toList]; exact c1)
theorem own_holds {l : List (Int × Int)} {g : Nat} {cur : Array Value} (hh : w.heap[g]? = some (.cells cur 40 (0, 0)))
    (hc : ∀ j, j < l.length → cur[j * 2]? = some (.int .i64 (l.getD j (0, 0)).1) ∧ cur[j * 2 + 1]? = some (.int .i64 (l.getD j (0, 0)).2)) : HoldsK encV 2 w g 0 l.toArray := by
  intro t ht
  refine ⟨?_, by simp [World.frozen?, hh]⟩
  rw [Go.Sort.size_flatK] at ht
  have ht' : t < l.length * 2 := by simpa using ht
  have hg := Go.Sort.get_flatK encV 2 l.toArray t ht
  rw [hg, Nat.zero_add]
  have e : l.toArray[t / 2]! = l.getD (t / 2) (0, 0) := by simp [List.getElem?_eq_getElem (show t / 2 < l.length by omega), show t / 2 < l.length by omega]
  rw [e]
  obtain ⟨c0, c1⟩ := hc (t / 2) (by omega)
  simp only [World.cell?, hh, Option.isSome_none, Bool.false_eq_true, if_false]
  rcases (show t % 2 = 0 ∨ t % 2 = 1 by omega) with h | h
  · rw [h]
    rw [show t / 2 * 2 = t by omega] at c0
    exact c0
  · rw [h]
    rw [show t / 2 * 2 + 1 = t by omega] at c1
    exact c1
theorem sorted_grown {F : Array Value} {q : Nat} {os : Array Obj} : w.grownBy (Go.Sort.grow (putRow id (Go.Sort.ahead w q) g 0 F) os) (some g) := by
  refine ⟨rfl, rfl, rfl, by simp, fun k hk hne => ?_⟩
  rw [Go.Sort.heap_grow_old _ _ (by simpa using hk)]
  have : g ≠ k := fun e => hne (by rw [e])
  simp [putRow, mapBlock, Go.Sort.ahead, Array.getElem?_modify, this]
theorem sorted_own {l l' : List (Int × Int)} {g cap q : Nat} {cur : Array Value} {os : Array Obj} (hl : l'.length = l.length) (hg : b ≤ g) (hh : w.heap[g]? = some (.cells cur 40 (0, 0))) (h1 : l.length ≤ cap) (h2 : cap ≤ maxLen) (h3 : cur.size = cap * 2) :
    Own (sortWorldK encV 2 w g 0 q l'.toArray os) b (.slice (some ⟨g, 0, none⟩) l.length cap) l' := by
  have hlt : g < w.heap.size := blk_lt hh
  rw [← hl]
  refine own_of_cells (cur := putCells id 0 (flatK encV 2 l'.toArray) cur) hg ?_ (by omega) h2 (by simp [putCells, h3]) (fun j hj => ?_)
  · unfold sortWorldK putRowK
    rw [Go.Sort.heap_grow_old _ _ (by simpa using hlt)]
    simp [putRow, mapBlock, Go.Sort.ahead, Array.getElem?_modify, hh, onCells]
  · have key : ∀ r, r < 2 → (putCells id 0 (flatK encV 2 l'.toArray) cur)[j * 2 + r]? = some ((encV (l'.getD j (0, 0)))[r]!) := fun r hr => by
      have hf := flat_get l' j r hj hr
      have hs : j * 2 + r < cur.size := by omega
      have hs2 : j * 2 + r < (flatK encV 2 l'.toArray).size := by rw [Go.Sort.size_flatK]; simp; omega
      unfold putCells
      rw [Array.getElem?_mapIdx, Array.getElem?_eq_getElem hs]
      simp only [Option.map_some, Nat.zero_le, Nat.zero_add, true_and, Nat.sub_zero, hs2, if_true, id]
      rw [← hf, Array.getElem?_eq_getElem hs2]
      exact congrArg some (getElem!_pos (flatK encV 2 l'.toArray) (j * 2 + r) hs2)
    exact ⟨key 0 (by omega), key 1 (by omega)⟩
end Go.Proofs.Ytaedbjjjdafabaa.Tb
