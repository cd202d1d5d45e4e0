/- Plain facts on ranks, and the comparison of two values. Conditions: none. -/
import Derived.Test.YtaedbjjjdafabaaTo
import Derived.Deep.Slices
import Derived.DataElems
import Derived.WideShapes
import Derived.Laws.StructEq
namespace Go.Proofs.Ytaedbjjjdafabaa.Tb
open Go.RowKit Go.Proofs.YtaedbjjjdafabaaW.PrintWords Go.Proofs.YtaedbjjjdafabaaW.PrintLast Go.Proofs.YtaedbjjjdafabaaW.PrintMore Go.Proofs.YtaedbjjjdafabaaW.PrintWords.Kd Go.Maps Go.Proofs.Ytaedbjjjdafabaa.PInternFull
attribute [local go_sem] max2_int min2_int max_two min_two max_three min_three max_four min_four
set_option linter.unusedVariables false
set_option linter.unusedSimpArgs false
variable {w w1 : World} {b g gt : Nat} {A : Option Addr} {n c bm m : Nat} {X : List (List (Int × Int))} {D : DataW Unit}
theorem rk_map (D : DataW Unit) (Y : List V2) : ∀ k, Tidy (rk D Y k)
  | 0 => tidy_empty
  | k + 1 => (rk_map D Y k).put (by trivial) _
/-- The handles of Y's values are unlike. -/
def Unlike (D : DataW Unit) (Y : List V2) : Prop := ∀ i j, i < Y.length → j < Y.length → hof D (Y.getD i (0, 0)) = hof D (Y.getD j (0, 0)) → i = j
theorem int_ne {a b : Int} (h : a ≠ b) : (Lit.int .i64 a) ≠ .int .i64 b := fun e => h (by injection e)
theorem rk_no (D : DataW Unit) (Y : List V2) (hu : Unlike D Y) : ∀ k i, k ≤ i → i < Y.length → Maps.has (rk D Y k) (.int .i64 (hof D (Y.getD i (0, 0)))) = false
  | 0, i, _, _ => rfl
  | k + 1, i, h, hi => by
    rw [rk, has_put_other (int_ne (fun e => by have := hu i k hi (by omega) e; omega))]
    exact rk_no D Y hu k i (by omega) hi
theorem rk_size (D : DataW Unit) (Y : List V2) (hu : Unlike D Y) : ∀ k, k ≤ Y.length → Maps.size (rk D Y k) = k
  | 0, _ => rfl
  | k + 1, h => by
    rw [rk, size_put (rk_map D Y k), rk_no D Y hu k k (Nat.le_refl _) (by omega), rk_size D Y hu k (by omega)]
    simp
theorem rk_at (D : DataW Unit) (Y : List V2) (hu : Unlike D Y) (z : DataW Unit) : ∀ k i, i < k → k ≤ Y.length → (rk D Y k).atKey (.int .i64 (hof D (Y.getD i (0, 0)))) z = .lit (.int .i64 (i : Int))
  | 0, i, h, _ => by omega
  | k + 1, i, h, hk => by
    rw [rk]
    by_cases e : i = k
    · subst e
      exact atKey_put_same (rk_map D Y i).isMap (by trivial) _ _
    · rw [atKey_put_other (int_ne (fun e2 => e (hu i k (by omega) (by omega) e2)))]
      exact rk_at D Y hu z k i (by omega) (by omega)
theorem hof_at (G : Good n X D) {d j : Nat} {v : V2} (h : (X.getD d [])[j]? = some v) : hof D v = ((j * n + d : Nat) : Int) := by
  unfold hof
  rw [G.hnd d j v h]
theorem hof_inj (G : Good n X D) {u v : V2} (hu : u ∈ X.flatten) (hv : v ∈ X.flatten) (e : hof D u = hof D v) : u = v := by
  obtain ⟨d, j, hd, _, _⟩ := at_mem X u hu
  obtain ⟨d2, j2, hd2, _, _⟩ := at_mem X v hv
  rw [hof_at G hd, hof_at G hd2] at e
  refine good_inj G hu hv (fun z => ?_)
  rw [G.hnd d j u hd z, G.hnd d2 j2 v hd2 z, e]
theorem sortL_perm (l : List V2) : (sortL l).Perm l := List.mergeSort_perm l _
theorem good_unlike (G : Good n X D) : Unlike D (sortL X.flatten) := fun i j hi hj e => by
  have nd : (sortL X.flatten).Nodup := (sortL_perm _).nodup_iff.2 G.nod
  have mi : ∀ k, k < (sortL X.flatten).length → (sortL X.flatten).getD k (0, 0) ∈ X.flatten := fun k hk => by
    rw [List.getD_eq_getElem?_getD, List.getElem?_eq_getElem hk, Option.getD_some]
    exact sortL_mem.1 (List.getElem_mem hk)
  have e2 := hof_inj G (mi i hi) (mi j hj) e
  rw [List.getD_eq_getElem?_getD, List.getElem?_eq_getElem hi, List.getD_eq_getElem?_getD, List.getElem?_eq_getElem hj, Option.getD_some, Option.getD_some] at e2
  rcases Nat.lt_trichotomy i j with h | h | h
  · exact absurd e2 (List.pairwise_iff_getElem.1 nd i j hi hj h)
  · exact h
  · exact absurd e2.symm (List.pairwise_iff_getElem.1 nd j i hj hi h)
theorem eqA40 (d : Nat) (w : World) (x1 x2 y1 y2 : Int) : (Op.equalIn (d + 2) 40 (.agg #[.int .i64 x1, .int .i64 x2]) (.agg #[.int .i64 y1, .int .i64 y2])).run Try.prog w = .ok ((x1 == y1) && (x2 == y2)) w := by
  refine eqA_of Try.underlying40 (by kernel_rfl) ?_
  refine eqf_cons (by rfl) (by go_simp; rfl) (by go_simp; rfl) (by go_simp) ?_
  exact eqf_last (by rfl) (by go_simp; rfl) (by go_simp; rfl) (by go_simp)
theorem neqV (w : World) (a b c d : Int) : (Go.binOp .neq 40 (.agg #[.int .i64 a, .int .i64 b]) (.agg #[.int .i64 c, .int .i64 d])).run Try.prog w = .ok (.bool (!((a == c) && (b == d)))) w := by
  rw [run_neq_struct, eqA40 9998]
  rfl
end Go.Proofs.Ytaedbjjjdafabaa.Tb
